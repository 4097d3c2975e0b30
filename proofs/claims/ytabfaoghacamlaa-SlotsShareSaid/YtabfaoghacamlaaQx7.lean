/- Walks of Go functions, each against a plain function over numbers and lists; written by this session's program printx.py over the kit's print; no condition but those that each theorem states. -/
import Derived.Test.YtabfaoghacamlaaQx0
import Derived.Test.YtabfaoghacamlaaQx1
import Derived.Test.YtabfaoghacamlaaQx3
import Derived.Test.YtabfaoghacamlaaQx4
import Derived.Test.YtabfaoghacamlaaQx6
namespace Go.Proofs.Ytabfaoghacamlaa.Q
open Go.RowKit Go.Proofs.YtabfaoghacamlaaW.PrintWords Go.Proofs.YtabfaoghacamlaaW.PrintLast Go.Proofs.YtabfaoghacamlaaW.PrintMore
attribute [local go_sem] max2_int min2_int max_two min_two max_three min_three max_four min_four   -- for this text's walks alone
set_option linter.unusedVariables false
set_option linter.unusedSimpArgs false

/-! ### samphirelaw17_SlotsShare: function 6 -/
mutual
def samphirelaw17_SlotsShare.l0 : Nat → Int → Int → Int → Int → Int → Int → Int → Int → Int → Int → List ByteArray → Int → Int → List ByteArray → Option (Bool)
 | 0, _, _, _, _, _, _, _, _, _, _, _, _, _, _ => none
 | k + 1, x5, x6, x8, x10, x11, x12, x55, x56, x273000, x273001, x273002, x280000, x280001, x280002 => if x56 < x55 then ((some (([x56] : List Int) : List Int)).bind fun y301 => ((slots_Add.f k x273000 x273001 x273002 (⟨#[110, 101, 119]⟩ : ByteArray) x6 y301 0).bind fun bt305 => ((slots_Merge.f k x280000 x280001 x280002 x273000 x273001 x273002 y301 0).bind fun bt317 => (if bt305.2.2.2.2.2 = 0 then (if bt317.2.2.2.2.2 = 0 then (if (bt305.2.2.1.length : Int) = 1 then (if (bt317.2.2.1.length : Int) = 1 then (if bt305.2.2.2.2.1 = 1 then (if bt317.2.2.2.2.1 = 1 then (if bt305.2.1 = (IntKind.u64.wrap (x5 + x6)) then (samphirelaw17_SlotsShare.j1 k x5 x6 x8 x10 x11 x12 x55 x56 (bt317.2.1 != (IntKind.u64.wrap (x5 + x6))) x273000 x273001 x273002 x280000 x280001 x280002 bt305.1 bt305.2.1 bt305.2.2.1 bt317.1 bt317.2.1 bt317.2.2.1) else (none)) else (none)) else (none)) else (none)) else (none)) else (none)) else (none))))) else (if x8 = 0 then (if x10 = 0 then (if x11 = x6 then (if x12 = x6 then ((samphirelaw17_awake.f k).bind fun t300 => (some t300)) else (none)) else (none)) else (none)) else (none))
def samphirelaw17_SlotsShare.j1 : Nat → Int → Int → Int → Int → Int → Int → Int → Int → Bool → Int → Int → List ByteArray → Int → Int → List ByteArray → Int → Int → List ByteArray → Int → Int → List ByteArray → Option (Bool)
 | 0, _, _, _, _, _, _, _, _, _, _, _, _, _, _, _, _, _, _, _, _, _ => none
 | k + 1, x5, x6, x8, x10, x11, x12, x55, x56, x121, x273000, x273001, x273002, x280000, x280001, x280002, x316000, x316001, x316002, x328000, x328001, x328002 => if x121 = true then (some false) else (if 0 < (x316002.length : Int) then (if (rdOf ByteArray.empty x316002 0).toList = ([110, 101, 119] : List UInt8) then (if 0 < (x328002.length : Int) then (if (rdOf ByteArray.empty x328002 0).toList = ([110, 101, 119] : List UInt8) then (samphirelaw17_SlotsShare.l0 k x5 x6 x8 x10 (IntKind.u64.wrap (x11 + 1)) (IntKind.u64.wrap (x12 + 1)) x55 (IntKind.u64.wrap (x56 + 1)) x273000 x273001 x273002 x280000 x280001 x280002) else (samphirelaw17_SlotsShare.l0 k x5 x6 x8 x10 (IntKind.u64.wrap (x11 + 1)) x12 x55 (IntKind.u64.wrap (x56 + 1)) x273000 x273001 x273002 x280000 x280001 x280002)) else (none)) else (if 0 < (x328002.length : Int) then (if (rdOf ByteArray.empty x328002 0).toList = ([110, 101, 119] : List UInt8) then (samphirelaw17_SlotsShare.l0 k x5 x6 x8 x10 x11 (IntKind.u64.wrap (x12 + 1)) x55 (IntKind.u64.wrap (x56 + 1)) x273000 x273001 x273002 x280000 x280001 x280002) else (samphirelaw17_SlotsShare.l0 k x5 x6 x8 x10 x11 x12 x55 (IntKind.u64.wrap (x56 + 1)) x273000 x273001 x273002 x280000 x280001 x280002)) else (none))) else (none))
end
def samphirelaw17_SlotsShare.f (k : Nat) (a0 : Int) (a1 : Int) : Option (Bool) := (slots_New.f 1).bind fun bt266 => ((slots_New.f 1).bind fun bt273 => ((slots_Add.f k bt266.1 bt266.2.1 bt266.2.2.1 (⟨#[111, 108, 100]⟩ : ByteArray) (IntKind.u64.wrap (1 + (IntKind.u64.wrap (Int.tmod a0 60)))) ([] : List Int) 0).bind fun bt280 => ((slots_Add.f k bt273.1 bt273.2.1 bt273.2.2.1 (⟨#[110, 101, 119]⟩ : ByteArray) (IntKind.u64.wrap (1 + (IntKind.u64.wrap (Int.tmod a1 60)))) ([] : List Int) 0).bind fun bt290 => (samphirelaw17_SlotsShare.l0 k (IntKind.u64.wrap (1 + (IntKind.u64.wrap (Int.tmod a0 60)))) (IntKind.u64.wrap (1 + (IntKind.u64.wrap (Int.tmod a1 60)))) bt266.2.2.2 bt273.2.2.2 0 0 (IntKind.u64.wrap ((IntKind.u64.wrap (1 + (IntKind.u64.wrap (Int.tmod a0 60)))) + (IntKind.u64.wrap (1 + (IntKind.u64.wrap (Int.tmod a1 60)))))) 0 bt280.1 bt280.2.1 bt280.2.2.1 bt290.1 bt290.2.1 bt290.2.2.1))))
theorem samphirelaw17_SlotsShare.mono_l : ∀ k, (∀ y0 y1 y2 y3 y4 y5 y6 y7 y8 y9 y10 y11 y12 y13, LeO (samphirelaw17_SlotsShare.l0 k y0 y1 y2 y3 y4 y5 y6 y7 y8 y9 y10 y11 y12 y13) (samphirelaw17_SlotsShare.l0 (k + 1) y0 y1 y2 y3 y4 y5 y6 y7 y8 y9 y10 y11 y12 y13)) ∧ (∀ y0 y1 y2 y3 y4 y5 y6 y7 y8 y9 y10 y11 y12 y13 y14 y15 y16 y17 y18 y19 y20, LeO (samphirelaw17_SlotsShare.j1 k y0 y1 y2 y3 y4 y5 y6 y7 y8 y9 y10 y11 y12 y13 y14 y15 y16 y17 y18 y19 y20) (samphirelaw17_SlotsShare.j1 (k + 1) y0 y1 y2 y3 y4 y5 y6 y7 y8 y9 y10 y11 y12 y13 y14 y15 y16 y17 y18 y19 y20))
 | 0 => ⟨fun _ _ _ _ _ _ _ _ _ _ _ _ _ _ r h => by simp [samphirelaw17_SlotsShare.l0] at h, fun _ _ _ _ _ _ _ _ _ _ _ _ _ _ _ _ _ _ _ _ _ r h => by simp [samphirelaw17_SlotsShare.j1] at h⟩
 | k + 1 => by
  obtain ⟨ih0, ih1⟩ := samphirelaw17_SlotsShare.mono_l k
  refine ⟨?_, ?_⟩
  ·
   intro y0 y1 y2 y3 y4 y5 y6 y7 y8 y9 y10 y11 y12 y13
   unfold samphirelaw17_SlotsShare.l0
   repeat' first
   | (with_reducible exact ih0 _ _ _ _ _ _ _ _ _ _ _ _ _ _)
   | (with_reducible exact ih1 _ _ _ _ _ _ _ _ _ _ _ _ _ _ _ _ _ _ _ _ _)
   | (with_reducible exact samphirelaw17_awake.mono _)
   | (with_reducible exact slots_Add.mono _ _ _ _ _ _ _ _)
   | (with_reducible exact slots_Merge.mono _ _ _ _ _ _ _ _ _)
   | (with_reducible exact LeO.refl _)
   | (with_reducible exact LeO.none _)
   | (with_reducible refine LeO.ite ?_ ?_)
   | (with_reducible refine LeO.bind ?_ (fun _ => ?_))
   | exact ih0 _ _ _ _ _ _ _ _ _ _ _ _ _ _
   | exact ih1 _ _ _ _ _ _ _ _ _ _ _ _ _ _ _ _ _ _ _ _ _
   | exact samphirelaw17_awake.mono _
   | exact slots_Add.mono _ _ _ _ _ _ _ _
   | exact slots_Merge.mono _ _ _ _ _ _ _ _ _
   | exact LeO.none _
   | refine LeO.ite ?_ ?_
   | refine LeO.bind ?_ (fun _ => ?_)
  ·
   intro y0 y1 y2 y3 y4 y5 y6 y7 y8 y9 y10 y11 y12 y13 y14 y15 y16 y17 y18 y19 y20
   unfold samphirelaw17_SlotsShare.j1
   repeat' first
   | (with_reducible exact ih0 _ _ _ _ _ _ _ _ _ _ _ _ _ _)
   | (with_reducible exact ih1 _ _ _ _ _ _ _ _ _ _ _ _ _ _ _ _ _ _ _ _ _)
   | (with_reducible exact samphirelaw17_awake.mono _)
   | (with_reducible exact slots_Add.mono _ _ _ _ _ _ _ _)
   | (with_reducible exact slots_Merge.mono _ _ _ _ _ _ _ _ _)
   | (with_reducible exact LeO.refl _)
   | (with_reducible exact LeO.none _)
   | (with_reducible refine LeO.ite ?_ ?_)
   | (with_reducible refine LeO.bind ?_ (fun _ => ?_))
   | exact ih0 _ _ _ _ _ _ _ _ _ _ _ _ _ _
   | exact ih1 _ _ _ _ _ _ _ _ _ _ _ _ _ _ _ _ _ _ _ _ _
   | exact samphirelaw17_awake.mono _
   | exact slots_Add.mono _ _ _ _ _ _ _ _
   | exact slots_Merge.mono _ _ _ _ _ _ _ _ _
   | exact LeO.none _
   | refine LeO.ite ?_ ?_
   | refine LeO.bind ?_ (fun _ => ?_)
theorem samphirelaw17_SlotsShare.mono : ∀ a0 a1 k, LeO (samphirelaw17_SlotsShare.f k a0 a1) (samphirelaw17_SlotsShare.f (k + 1) a0 a1) := by
 intro a0 a1 k
 obtain ⟨ih0, ih1⟩ := samphirelaw17_SlotsShare.mono_l k
 unfold samphirelaw17_SlotsShare.f
 repeat' first
   | (with_reducible exact ih0 _ _ _ _ _ _ _ _ _ _ _ _ _ _)
   | (with_reducible exact ih1 _ _ _ _ _ _ _ _ _ _ _ _ _ _ _ _ _ _ _ _ _)
   | (with_reducible exact samphirelaw17_awake.mono _)
   | (with_reducible exact slots_Add.mono _ _ _ _ _ _ _ _)
   | (with_reducible exact slots_Merge.mono _ _ _ _ _ _ _ _ _)
   | (with_reducible exact LeO.refl _)
   | (with_reducible exact LeO.none _)
   | (with_reducible refine LeO.ite ?_ ?_)
   | (with_reducible refine LeO.bind ?_ (fun _ => ?_))
   | exact ih0 _ _ _ _ _ _ _ _ _ _ _ _ _ _
   | exact ih1 _ _ _ _ _ _ _ _ _ _ _ _ _ _ _ _ _ _ _ _ _
   | exact samphirelaw17_awake.mono _
   | exact slots_Add.mono _ _ _ _ _ _ _ _
   | exact slots_Merge.mono _ _ _ _ _ _ _ _ _
   | exact LeO.none _
   | refine LeO.ite ?_ ?_
   | refine LeO.bind ?_ (fun _ => ?_)
set_option maxHeartbeats 8000000 in
set_option maxRecDepth 100000 in
theorem samphirelaw17_SlotsShare.calls (k : Nat) (a0 : Int) (a1 : Int) (r : Bool) (w : World) (h : samphirelaw17_SlotsShare.f k a0 a1 = some r) :
  Calls Try.prog 6 #[.int .u8 a0, .int .u8 a1] w fun e w' => e = .returned (.bool r) ∧ Below w.heap.size w w' := by
 have hu27 := Try.underlying27
 have hu33 := Try.underlying33
 have HB := Aside0.mk (Below.refl w.heap.size w)
 have H : ((slots_New.f 1).bind fun bt266 => ((slots_New.f 1).bind fun bt273 => ((slots_Add.f k bt266.1 bt266.2.1 bt266.2.2.1 (⟨#[111, 108, 100]⟩ : ByteArray) (IntKind.u64.wrap (1 + (IntKind.u64.wrap (Int.tmod a0 60)))) ([] : List Int) 0).bind fun bt280 => ((slots_Add.f k bt273.1 bt273.2.1 bt273.2.2.1 (⟨#[110, 101, 119]⟩ : ByteArray) (IntKind.u64.wrap (1 + (IntKind.u64.wrap (Int.tmod a1 60)))) ([] : List Int) 0).bind fun bt290 => (samphirelaw17_SlotsShare.l0 k (IntKind.u64.wrap (1 + (IntKind.u64.wrap (Int.tmod a0 60)))) (IntKind.u64.wrap (1 + (IntKind.u64.wrap (Int.tmod a1 60)))) bt266.2.2.2 bt273.2.2.2 0 0 (IntKind.u64.wrap ((IntKind.u64.wrap (1 + (IntKind.u64.wrap (Int.tmod a0 60)))) + (IntKind.u64.wrap (1 + (IntKind.u64.wrap (Int.tmod a1 60)))))) 0 bt280.1 bt280.2.1 bt280.2.2.1 bt290.1 bt290.2.1 bt290.2.2.1))))) = some r := h
 clear h
 replace H := Option.bind_eq_some_iff.mp H
 obtain ⟨⟨t266, t267, t268, t271⟩, A30, H⟩ := H
 replace H : ((slots_New.f 1).bind fun bt273 => ((slots_Add.f k t266 t267 t268 (⟨#[111, 108, 100]⟩ : ByteArray) (IntKind.u64.wrap (1 + (IntKind.u64.wrap (Int.tmod a0 60)))) ([] : List Int) 0).bind fun bt280 => ((slots_Add.f k bt273.1 bt273.2.1 bt273.2.2.1 (⟨#[110, 101, 119]⟩ : ByteArray) (IntKind.u64.wrap (1 + (IntKind.u64.wrap (Int.tmod a1 60)))) ([] : List Int) 0).bind fun bt290 => (samphirelaw17_SlotsShare.l0 k (IntKind.u64.wrap (1 + (IntKind.u64.wrap (Int.tmod a0 60)))) (IntKind.u64.wrap (1 + (IntKind.u64.wrap (Int.tmod a1 60)))) t271 bt273.2.2.2 0 0 (IntKind.u64.wrap ((IntKind.u64.wrap (1 + (IntKind.u64.wrap (Int.tmod a0 60)))) + (IntKind.u64.wrap (1 + (IntKind.u64.wrap (Int.tmod a1 60)))))) 0 bt280.1 bt280.2.1 bt280.2.2.1 bt290.1 bt290.2.1 bt290.2.2.1)))) = some r := H
 have A3 := Aside0.mk A30
 clear A30
 replace H := Option.bind_eq_some_iff.mp H
 obtain ⟨⟨t273, t274, t275, t278⟩, A40, H⟩ := H
 replace H : ((slots_Add.f k t266 t267 t268 (⟨#[111, 108, 100]⟩ : ByteArray) (IntKind.u64.wrap (1 + (IntKind.u64.wrap (Int.tmod a0 60)))) ([] : List Int) 0).bind fun bt280 => ((slots_Add.f k t273 t274 t275 (⟨#[110, 101, 119]⟩ : ByteArray) (IntKind.u64.wrap (1 + (IntKind.u64.wrap (Int.tmod a1 60)))) ([] : List Int) 0).bind fun bt290 => (samphirelaw17_SlotsShare.l0 k (IntKind.u64.wrap (1 + (IntKind.u64.wrap (Int.tmod a0 60)))) (IntKind.u64.wrap (1 + (IntKind.u64.wrap (Int.tmod a1 60)))) t271 t278 0 0 (IntKind.u64.wrap ((IntKind.u64.wrap (1 + (IntKind.u64.wrap (Int.tmod a0 60)))) + (IntKind.u64.wrap (1 + (IntKind.u64.wrap (Int.tmod a1 60)))))) 0 bt280.1 bt280.2.1 bt280.2.2.1 bt290.1 bt290.2.1 bt290.2.2.1))) = some r := H
 have A4 := Aside0.mk A40
 clear A40
 replace H := Option.bind_eq_some_iff.mp H
 obtain ⟨⟨t280, t281, t282, t285, t288, t289⟩, A50, H⟩ := H
 replace H : ((slots_Add.f k t273 t274 t275 (⟨#[110, 101, 119]⟩ : ByteArray) (IntKind.u64.wrap (1 + (IntKind.u64.wrap (Int.tmod a1 60)))) ([] : List Int) 0).bind fun bt290 => (samphirelaw17_SlotsShare.l0 k (IntKind.u64.wrap (1 + (IntKind.u64.wrap (Int.tmod a0 60)))) (IntKind.u64.wrap (1 + (IntKind.u64.wrap (Int.tmod a1 60)))) t271 t278 0 0 (IntKind.u64.wrap ((IntKind.u64.wrap (1 + (IntKind.u64.wrap (Int.tmod a0 60)))) + (IntKind.u64.wrap (1 + (IntKind.u64.wrap (Int.tmod a1 60)))))) 0 t280 t281 t282 bt290.1 bt290.2.1 bt290.2.2.1)) = some r := H
 have A5 := Aside0.mk A50
 clear A50
 replace H := Option.bind_eq_some_iff.mp H
 obtain ⟨⟨t290, t291, t292, t295, t298, t299⟩, A60, H⟩ := H
 replace H : (samphirelaw17_SlotsShare.l0 k (IntKind.u64.wrap (1 + (IntKind.u64.wrap (Int.tmod a0 60)))) (IntKind.u64.wrap (1 + (IntKind.u64.wrap (Int.tmod a1 60)))) t271 t278 0 0 (IntKind.u64.wrap ((IntKind.u64.wrap (1 + (IntKind.u64.wrap (Int.tmod a0 60)))) + (IntKind.u64.wrap (1 + (IntKind.u64.wrap (Int.tmod a1 60)))))) 0 t280 t281 t282 t290 t291 t292) = some r := H
 have A6 := Aside0.mk A60
 clear A60
 have H' := Aside0.mk H
 clear H
 go_enter Try.func6, Try.ntmps6
 go_wp2_with (first | ((with_reducible refine gate_callee (f := 8) rfl ?_); refine goesL_ (some 30) rfl rfl Try.func8 (by kernel_rfl) rfl #[.int .i64 1] rfl (by (try simp only [List.map_toArray, List.map_cons, List.map_nil]); first | done | rfl | (simp only [List.length_drop, List.length_take]; rfl)) ?_; (with_reducible refine (slots_New.calls 1 t266 t267 t268 t271 _ A3.out).mono ?_); rintro e w7 ⟨v269, rfl, ho0, hb⟩; refine ⟨_, rfl, ?_⟩; have n0_ := Aside0.mk (Kd.R_lower ho0 (below_size (by repeat (first | (with_reducible first | exact HB.out | apply below_alloc | apply pw_below_drewN | apply below_drew1) | exact HB.out)))); have n1_ := Aside0.mk (below_step (by repeat (first | (with_reducible first | exact HB.out | apply below_alloc | apply pw_below_drewN | apply below_drew1) | exact HB.out)) hb); clear HB; have HO270 := n0_; have HB := n1_; clear n0_ n1_; (try clear hb); (try clear hb2); (try clear hk); (try clear hi); (try clear ho0)) | ((with_reducible refine gate_dst (N := 7) rfl ?_); (try (refine gate_guard (by rfl) ?_; dsimp only)); refine box_event ?hg (N := 7) ?hd (cs := #[.int .i64 0, .int .u64 0, .slice none 0 0]) (t := 27) ?hr ?_; (case hd => rfl); (case hg => rfl); (case hr => first | (go_simp; done) | (go_simp; rfl)); intro gb272 hg w8 hbox hb; have n0_ := Aside0.mk (Kd.R_below (by (with_reducible repeat (first | apply Kd.R_alloc | apply Kd.R_drewN | apply Kd.R_drew)); exact HO270.out) hb); have n1_ := Aside0.mk (below_step (by repeat (first | (with_reducible first | exact HB.out | apply below_alloc | apply pw_below_drewN | apply below_drew1) | exact HB.out)) hb); have n2_ := Aside0.mk (hbox); have n3_ := Aside0.mk ((by rw [hg]; exact (below_size (by repeat (first | (with_reducible first | exact HB.out | apply below_alloc | apply pw_below_drewN | apply below_drew1) | exact HB.out))) : w.heap.size ≤ gb272)); have n4_ := Aside0.mk ((by rw [hg]; exact (below_size (by repeat (first | (with_reducible first | exact HB.out | apply below_alloc | apply pw_below_drewN | apply below_drew1) | exact HB.out))) : w.heap.size ≤ gb272)); clear HO270; clear HB; have HO270 := n0_; have HB := n1_; have BK272 := n2_; have GW272 := n3_; have GE272 := n4_; clear n0_ n1_ n2_ n3_ n4_; clear hb hbox hg; have hcz9_0 : w8.cell? ⟨gb272, 0, none⟩ = some (.int .i64 0) := (blk_cell BK272.out 0).trans rfl; have hcz9_1 : w8.cell? ⟨gb272, 1, none⟩ = some (.int .u64 0) := (blk_cell BK272.out 1).trans rfl; have hcz9_2 : w8.cell? ⟨gb272, 2, none⟩ = some (.slice none 0 0) := (blk_cell BK272.out 2).trans rfl; have hfz9_0 := blk_frozen BK272.out 0; have hfz9_1 := blk_frozen BK272.out 1; have hfz9_2 := blk_frozen BK272.out 2; obtain ⟨Ao10, co10, eo10⟩ := Kd.R_slice HO270.out; subst eo10) | ((with_reducible refine gate_callee (f := 8) rfl ?_); refine goesL_ (some 34) rfl rfl Try.func8 (by kernel_rfl) rfl #[.int .i64 1] rfl (by (try simp only [List.map_toArray, List.map_cons, List.map_nil]); first | done | rfl | (simp only [List.length_drop, List.length_take]; rfl)) ?_; (with_reducible refine (slots_New.calls 1 t273 t274 t275 t278 _ A4.out).mono ?_); rintro e w11 ⟨v276, rfl, ho0, hb⟩; refine ⟨_, rfl, ?_⟩; have n0_ := Aside0.mk (Kd.R_elder' (by (with_reducible repeat (first | apply Kd.R_alloc | apply Kd.R_drewN | apply Kd.R_drew)); exact (Kd.R_mono (Kd.R_far (p := ⟨gb272, 2, none⟩) (Kd.R_far (p := ⟨gb272, 1, none⟩) (Kd.R_far (p := ⟨gb272, 0, none⟩) (Kd.R_types HO270.out BK272.out (by decide)) (fun _ hk => hk.2) (.int .i64 t266)) (fun _ hk => hk.2) (.int .u64 t267)) (fun _ hk => hk.2) (.slice Ao10 t268.length co10)) (fun _ h_ => h_.1))) (Kd.R_base ho0) hb); have n1_ := Aside0.mk (Kd.R_lower (Kd.R_new' ho0 (Kd.R_lt (by (with_reducible repeat (first | apply Kd.R_alloc | apply Kd.R_drewN | apply Kd.R_drew)); exact (Kd.R_mono (Kd.R_far (p := ⟨gb272, 2, none⟩) (Kd.R_far (p := ⟨gb272, 1, none⟩) (Kd.R_far (p := ⟨gb272, 0, none⟩) (Kd.R_types HO270.out BK272.out (by decide)) (fun _ hk => hk.2) (.int .i64 t266)) (fun _ hk => hk.2) (.int .u64 t267)) (fun _ hk => hk.2) (.slice Ao10 t268.length co10)) (fun _ h_ => h_.1))))) (below_size (by repeat (first | (with_reducible first | exact HB.out | apply below_alloc | apply pw_below_drewN | apply below_drew1 | refine below_set ?_ GE272.out) | exact HB.out)))); have n2_ := Aside0.mk (blk_below (g := gb272) (o := .cells #[.int .i64 t266, .int .u64 t267, .slice Ao10 t268.length co10] 27 (0, 0)) (by (with_reducible repeat (first | refine blk_drewN ?_ _ | refine blk_drew ?_ | refine blk_alloc ?_ _)); refine blk_put (cs := #[.int .i64 t266, .int .u64 t267, .slice none 0 0]) ?_ 2 _ rfl; (with_reducible repeat (first | refine blk_drewN ?_ _ | refine blk_drew ?_ | refine blk_alloc ?_ _)); refine blk_put (cs := #[.int .i64 t266, .int .u64 0, .slice none 0 0]) ?_ 1 _ rfl; (with_reducible repeat (first | refine blk_drewN ?_ _ | refine blk_drew ?_ | refine blk_alloc ?_ _)); refine blk_put (cs := #[.int .i64 0, .int .u64 0, .slice none 0 0]) ?_ 0 _ rfl; (with_reducible repeat (first | refine blk_drewN ?_ _ | refine blk_drew ?_ | refine blk_alloc ?_ _)); exact BK272.out) hb); have n3_ := Aside0.mk (below_step (by repeat (first | (with_reducible first | exact HB.out | apply below_alloc | apply pw_below_drewN | apply below_drew1 | refine below_set ?_ GE272.out) | exact HB.out)) hb); clear HO270; clear BK272; clear HB; have HO270 := n0_; have HO277 := n1_; have BK272 := n2_; have HB := n3_; clear n0_ n1_ n2_ n3_; (try clear hb); (try clear hb2); (try clear hk); (try clear hi); (try clear ho0)) | ((with_reducible refine gate_dst (N := 9) rfl ?_); (try (refine gate_guard (by rfl) ?_; dsimp only)); refine box_event ?hg (N := 9) ?hd (cs := #[.int .i64 0, .int .u64 0, .slice none 0 0]) (t := 27) ?hr ?_; (case hd => rfl); (case hg => rfl); (case hr => first | (go_simp; done) | (go_simp; rfl)); intro gb279 hg w12 hbox hb; have n0_ := Aside0.mk (Kd.R_below (by (with_reducible repeat (first | apply Kd.R_alloc | apply Kd.R_drewN | apply Kd.R_drew)); exact HO270.out) hb); have n1_ := Aside0.mk (Kd.R_below (by (with_reducible repeat (first | apply Kd.R_alloc | apply Kd.R_drewN | apply Kd.R_drew)); exact HO277.out) hb); have n2_ := Aside0.mk (blk_below (g := gb272) (o := .cells #[.int .i64 t266, .int .u64 t267, .slice Ao10 t268.length co10] 27 (0, 0)) (by (with_reducible repeat (first | refine blk_drewN ?_ _ | refine blk_drew ?_ | refine blk_alloc ?_ _)); exact BK272.out) hb); have n3_ := Aside0.mk (below_step (by repeat (first | (with_reducible first | exact HB.out | apply below_alloc | apply pw_below_drewN | apply below_drew1 | refine below_set ?_ GE272.out) | exact HB.out)) hb); have n4_ := Aside0.mk (hbox); have n5_ := Aside0.mk ((by rw [hg]; exact (below_size (by repeat (first | (with_reducible first | exact HB.out | apply below_alloc | apply pw_below_drewN | apply below_drew1 | refine below_set ?_ GE272.out) | exact HB.out))) : w.heap.size ≤ gb279)); have n6_ := Aside0.mk ((by rw [hg]; exact (below_size (by repeat (first | (with_reducible first | exact HB.out | apply below_alloc | apply pw_below_drewN | apply below_drew1 | refine below_set ?_ GE272.out) | exact HB.out))) : w.heap.size ≤ gb279)); have n7_ := Aside0.mk ((by rw [hg]; exact Nat.ne_of_lt (blk_lt (g := gb272) (o := .cells #[.int .i64 t266, .int .u64 t267, .slice Ao10 t268.length co10] 27 (0, 0)) (by (with_reducible repeat (first | refine blk_drewN ?_ _ | refine blk_drew ?_ | refine blk_alloc ?_ _)); exact BK272.out)) : gb272 ≠ gb279)); have n8_ := Aside0.mk ((by rw [hg]; exact Nat.ne_of_gt (blk_lt (g := gb272) (o := .cells #[.int .i64 t266, .int .u64 t267, .slice Ao10 t268.length co10] 27 (0, 0)) (by (with_reducible repeat (first | refine blk_drewN ?_ _ | refine blk_drew ?_ | refine blk_alloc ?_ _)); exact BK272.out)) : gb279 ≠ gb272)); clear HO270; clear HO277; clear BK272; clear HB; have HO270 := n0_; have HO277 := n1_; have BK272 := n2_; have HB := n3_; have BK279 := n4_; have GW279 := n5_; have GE279 := n6_; have NB272_279 := n7_; have NB279_272 := n8_; clear n0_ n1_ n2_ n3_ n4_ n5_ n6_ n7_ n8_; clear hb hbox hg; have hnb13 := NB279_272.out; have hnc13 := NB272_279.out; have hcz14_0 : w12.cell? ⟨gb279, 0, none⟩ = some (.int .i64 0) := (blk_cell BK279.out 0).trans rfl; have hcz14_1 : w12.cell? ⟨gb279, 1, none⟩ = some (.int .u64 0) := (blk_cell BK279.out 1).trans rfl; have hcz14_2 : w12.cell? ⟨gb279, 2, none⟩ = some (.slice none 0 0) := (blk_cell BK279.out 2).trans rfl; have hfz14_0 := blk_frozen BK279.out 0; have hfz14_1 := blk_frozen BK279.out 1; have hfz14_2 := blk_frozen BK279.out 2; obtain ⟨Ao15, co15, eo15⟩ := Kd.R_slice HO277.out; subst eo15) | ((with_reducible refine gate_store (t := 27) (p := 9) rfl ?_); refine store_event (t := 27) (p := 9) (v := ?vo_w16) (w1 := (((w12.setCell ⟨gb279, 0, none⟩ (.int .i64 t273)).setCell ⟨gb279, 1, none⟩ (.int .u64 t274)).setCell ⟨gb279, 2, none⟩ (.slice Ao15 t275.length co15))) ?hg ?ho ?hn ?hr ?_; (case ho => rfl); (case hg => rfl); (case hn => rfl); (case hr => first | (go_simp; done) | (go_simp; rfl)); intro w16 hw; have n0_ : Aside0 (Kd.R Kd.string 9 w16 w.heap.size (fun k_ => some k_ ≠ (.slice Ao15 t275.length co15 : Value).ownBlock) (.slice Ao10 t268.length co10) t268) := ⟨(by rw [hw]; exact (by (with_reducible repeat (first | apply Kd.R_alloc | apply Kd.R_drewN | apply Kd.R_drew)); exact Kd.R_mono (Kd.R_far (p := ⟨gb279, 2, none⟩) (Kd.R_far (p := ⟨gb279, 1, none⟩) (Kd.R_far (p := ⟨gb279, 0, none⟩) (Kd.R_types HO270.out BK279.out (by decide)) (fun _ hk => hk.2) (.int .i64 t273)) (fun _ hk => hk.2) (.int .u64 t274)) (fun _ hk => hk.2) (.slice Ao15 t275.length co15)) (fun _ hk => hk.1.2)))⟩; have n1_ : Aside0 (Kd.R Kd.string 9 w16 w.heap.size (fun k_ => some k_ ≠ (.slice Ao10 t268.length co10 : Value).ownBlock) (.slice Ao15 t275.length co15) t275) := ⟨(by rw [hw]; exact (by (with_reducible repeat (first | apply Kd.R_alloc | apply Kd.R_drewN | apply Kd.R_drew)); exact Kd.R_mono (Kd.R_far (p := ⟨gb279, 2, none⟩) (Kd.R_far (p := ⟨gb279, 1, none⟩) (Kd.R_far (p := ⟨gb279, 0, none⟩) (Kd.R_types HO277.out BK279.out (by decide)) (fun _ hk => hk.2) (.int .i64 t273)) (fun _ hk => hk.2) (.int .u64 t274)) (fun _ hk => hk.2) (.slice Ao15 t275.length co15)) (fun _ hk => hk.1.2)))⟩; have n2_ : Aside0 (w16.heap[gb272]? = some (.cells #[.int .i64 t266, .int .u64 t267, .slice Ao10 t268.length co10] 27 (0, 0))) := ⟨(by rw [hw]; exact (by (with_reducible repeat (first | refine blk_drewN ?_ _ | refine blk_drew ?_ | refine blk_alloc ?_ _)); refine blk_far ?_ NB272_279.out _; (with_reducible repeat (first | refine blk_drewN ?_ _ | refine blk_drew ?_ | refine blk_alloc ?_ _)); refine blk_far ?_ NB272_279.out _; (with_reducible repeat (first | refine blk_drewN ?_ _ | refine blk_drew ?_ | refine blk_alloc ?_ _)); refine blk_far ?_ NB272_279.out _; (with_reducible repeat (first | refine blk_drewN ?_ _ | refine blk_drew ?_ | refine blk_alloc ?_ _)); exact BK272.out))⟩; have n3_ : Aside0 (w16.heap[gb279]? = some (.cells #[.int .i64 t273, .int .u64 t274, .slice Ao15 t275.length co15] 27 (0, 0))) := ⟨(by rw [hw]; exact (by (with_reducible repeat (first | refine blk_drewN ?_ _ | refine blk_drew ?_ | refine blk_alloc ?_ _)); refine blk_put (cs := #[.int .i64 t273, .int .u64 t274, .slice none 0 0]) ?_ 2 _ rfl; (with_reducible repeat (first | refine blk_drewN ?_ _ | refine blk_drew ?_ | refine blk_alloc ?_ _)); refine blk_put (cs := #[.int .i64 t273, .int .u64 0, .slice none 0 0]) ?_ 1 _ rfl; (with_reducible repeat (first | refine blk_drewN ?_ _ | refine blk_drew ?_ | refine blk_alloc ?_ _)); refine blk_put (cs := #[.int .i64 0, .int .u64 0, .slice none 0 0]) ?_ 0 _ rfl; (with_reducible repeat (first | refine blk_drewN ?_ _ | refine blk_drew ?_ | refine blk_alloc ?_ _)); exact BK279.out))⟩; have n4_ : Aside0 (Below w.heap.size w w16) := ⟨(by rw [hw]; exact (by repeat (first | (with_reducible first | exact HB.out | apply below_alloc | apply pw_below_drewN | apply below_drew1 | refine below_set ?_ GE272.out | refine below_set ?_ GE279.out) | exact HB.out)))⟩; clear hw; clear HO270; clear HO277; clear BK272; clear BK279; clear HB; have HO270 := n0_; have HO277 := n1_; have BK272 := n2_; have BK279 := n3_; have HB := n4_; clear n0_ n1_ n2_ n3_ n4_; have hcz17_0 : w16.cell? ⟨gb272, 0, none⟩ = some (.int .i64 t266) := (blk_cell BK272.out 0).trans rfl; have hcz17_1 : w16.cell? ⟨gb272, 1, none⟩ = some (.int .u64 t267) := (blk_cell BK272.out 1).trans rfl; have hcz17_2 : w16.cell? ⟨gb272, 2, none⟩ = some (.slice Ao10 t268.length co10) := (blk_cell BK272.out 2).trans rfl; have hfz17_0 := blk_frozen BK272.out 0; have hfz17_1 := blk_frozen BK272.out 1; have hfz17_2 := blk_frozen BK272.out 2) | ((with_reducible refine gate_callee (f := 10) rfl ?_); refine goesL_ (some 41) rfl rfl Try.func10 (by kernel_rfl) rfl #[.agg #[.int .i64 t266, .int .u64 t267, .slice Ao10 t268.length co10], .string (⟨#[111, 108, 100]⟩ : ByteArray), .int .u64 (IntKind.u64.wrap (1 + (IntKind.u64.wrap (Int.tmod a0 60)))), .agg #[.slice none 0 0, .int .i64 0]] rfl (by (try simp only [List.map_toArray, List.map_cons, List.map_nil]); first | done | rfl | (simp only [List.length_drop, List.length_take]; rfl)) ?_; (refine (slots_Add.calls k t266 t267 (fun k_ => some k_ = (.slice Ao10 t268.length co10 : Value).ownBlock) _ _ t268 (⟨#[111, 108, 100]⟩ : ByteArray) (IntKind.u64.wrap (1 + (IntKind.u64.wrap (Int.tmod a0 60)))) (fun k_ => False) _ _ ([] : List Int) 0 t280 t281 t282 t285 t288 t289 _ ?side1 ?side2 A5.out).mono ?_); (case side1 => exact Kd.R_V (Kd.R_tight rfl (Kd.R_types (Kd.R_types (HO270.out) BK272.out (by decide)) BK279.out (by decide)))); (case side2 => exact Kd.V_nil _ _ _ _ _); rintro e w18 ⟨v283, v286, rfl, ho0, ho1, hb⟩; refine ⟨_, rfl, ?_⟩; have n0_ := Aside0.mk (Kd.R_below (by (with_reducible repeat (first | apply Kd.R_alloc | apply Kd.R_drewN | apply Kd.R_drew)); exact HO270.out) hb); have n1_ := Aside0.mk (Kd.R_below (by (with_reducible repeat (first | apply Kd.R_alloc | apply Kd.R_drewN | apply Kd.R_drew)); exact HO277.out) hb); have n2_ := Aside0.mk (Kd.V_lower (Kd.V_mono (ok' := fun k_ => some k_ ≠ (.slice Ao15 t275.length co15 : Value).ownBlock ∧ k_ ≠ gb272 ∧ k_ ≠ gb279) ho0 (fun k_ hk_ => ⟨Or.elim hk_ (fun hs_ => Or.elim hs_ (fun hs_ => ((Kd.R_types (Kd.R_types (HO270.out) BK272.out (by decide)) BK279.out (by decide)).1 k_ hs_.symm).1.1) (fun hs_ => (hs_).elim)) (fun hn_ => (Kd.fresh' (Kd.R_lt (by (with_reducible repeat (first | apply Kd.R_alloc | apply Kd.R_drewN | apply Kd.R_drew)); exact HO277.out)) k_ hn_)), Or.elim hk_ (fun hs_ => Or.elim hs_ (fun hs_ => ((Kd.R_types (Kd.R_types (HO270.out) BK272.out (by decide)) BK279.out (by decide)).1 k_ hs_.symm).1.2) (fun hs_ => (hs_).elim)) (fun hn_ => (Kd.freshB (g := gb272) (o := .cells #[.int .i64 t266, .int .u64 t267, .slice Ao10 t268.length co10] 27 (0, 0)) (by (with_reducible repeat (first | refine blk_drewN ?_ _ | refine blk_drew ?_ | refine blk_alloc ?_ _)); exact BK272.out) k_ hn_)), Or.elim hk_ (fun hs_ => Or.elim hs_ (fun hs_ => ((Kd.R_types (Kd.R_types (HO270.out) BK272.out (by decide)) BK279.out (by decide)).1 k_ hs_.symm).2) (fun hs_ => (hs_).elim)) (fun hn_ => (Kd.freshB (g := gb279) (o := .cells #[.int .i64 t273, .int .u64 t274, .slice Ao15 t275.length co15] 27 (0, 0)) (by (with_reducible repeat (first | refine blk_drewN ?_ _ | refine blk_drew ?_ | refine blk_alloc ?_ _)); exact BK279.out) k_ hn_))⟩)) (below_size (by repeat (first | (with_reducible first | exact HB.out | apply below_alloc | apply pw_below_drewN | apply below_drew1 | refine below_set ?_ GE272.out | refine below_set ?_ GE279.out) | exact HB.out)))); have n3_ := Aside0.mk (Kd.V_lower (Kd.V_mono (ok' := fun k_ => some k_ ≠ (.slice Ao15 t275.length co15 : Value).ownBlock ∧ k_ ≠ gb272 ∧ k_ ≠ gb279) ho1 (fun k_ hk_ => ⟨Or.elim hk_ (fun hs_ => Or.elim hs_ (fun hs_ => ((Kd.R_types (Kd.R_types (HO270.out) BK272.out (by decide)) BK279.out (by decide)).1 k_ hs_.symm).1.1) (fun hs_ => (hs_).elim)) (fun hn_ => (Kd.fresh' (Kd.R_lt (by (with_reducible repeat (first | apply Kd.R_alloc | apply Kd.R_drewN | apply Kd.R_drew)); exact HO277.out)) k_ hn_)), Or.elim hk_ (fun hs_ => Or.elim hs_ (fun hs_ => ((Kd.R_types (Kd.R_types (HO270.out) BK272.out (by decide)) BK279.out (by decide)).1 k_ hs_.symm).1.2) (fun hs_ => (hs_).elim)) (fun hn_ => (Kd.freshB (g := gb272) (o := .cells #[.int .i64 t266, .int .u64 t267, .slice Ao10 t268.length co10] 27 (0, 0)) (by (with_reducible repeat (first | refine blk_drewN ?_ _ | refine blk_drew ?_ | refine blk_alloc ?_ _)); exact BK272.out) k_ hn_)), Or.elim hk_ (fun hs_ => Or.elim hs_ (fun hs_ => ((Kd.R_types (Kd.R_types (HO270.out) BK272.out (by decide)) BK279.out (by decide)).1 k_ hs_.symm).2) (fun hs_ => (hs_).elim)) (fun hn_ => (Kd.freshB (g := gb279) (o := .cells #[.int .i64 t273, .int .u64 t274, .slice Ao15 t275.length co15] 27 (0, 0)) (by (with_reducible repeat (first | refine blk_drewN ?_ _ | refine blk_drew ?_ | refine blk_alloc ?_ _)); exact BK279.out) k_ hn_))⟩)) (below_size (by repeat (first | (with_reducible first | exact HB.out | apply below_alloc | apply pw_below_drewN | apply below_drew1 | refine below_set ?_ GE272.out | refine below_set ?_ GE279.out) | exact HB.out)))); have n4_ := Aside0.mk (blk_below (g := gb272) (o := .cells #[.int .i64 t266, .int .u64 t267, .slice Ao10 t268.length co10] 27 (0, 0)) (by (with_reducible repeat (first | refine blk_drewN ?_ _ | refine blk_drew ?_ | refine blk_alloc ?_ _)); exact BK272.out) hb); have n5_ := Aside0.mk (blk_below (g := gb279) (o := .cells #[.int .i64 t273, .int .u64 t274, .slice Ao15 t275.length co15] 27 (0, 0)) (by (with_reducible repeat (first | refine blk_drewN ?_ _ | refine blk_drew ?_ | refine blk_alloc ?_ _)); exact BK279.out) hb); have n6_ := Aside0.mk (below_step (by repeat (first | (with_reducible first | exact HB.out | apply below_alloc | apply pw_below_drewN | apply below_drew1 | refine below_set ?_ GE272.out | refine below_set ?_ GE279.out) | exact HB.out)) hb); clear HO270; clear HO277; clear BK272; clear BK279; clear HB; have HO270 := n0_; have HO277 := n1_; have HO284 := n2_; have HO287 := n3_; have BK272 := n4_; have BK279 := n5_; have HB := n6_; clear n0_ n1_ n2_ n3_ n4_ n5_ n6_; (try clear hb); (try clear hb2); (try clear hk); (try clear hi); (try clear ho0); (try clear ho1); have hcz19_0 : w18.cell? ⟨gb272, 0, none⟩ = some (.int .i64 t266) := (blk_cell BK272.out 0).trans rfl; have hcz19_1 : w18.cell? ⟨gb272, 1, none⟩ = some (.int .u64 t267) := (blk_cell BK272.out 1).trans rfl; have hcz19_2 : w18.cell? ⟨gb272, 2, none⟩ = some (.slice Ao10 t268.length co10) := (blk_cell BK272.out 2).trans rfl; have hfz19_0 := blk_frozen BK272.out 0; have hfz19_1 := blk_frozen BK272.out 1; have hfz19_2 := blk_frozen BK272.out 2; obtain ⟨Ao20, co20, eo20⟩ := Kd.V_slice HO284.out; subst eo20) | ((with_reducible refine gate_store (t := 27) (p := 7) rfl ?_); refine store_event (t := 27) (p := 7) (v := ?vo_w21) (w1 := (((w18.setCell ⟨gb272, 0, none⟩ (.int .i64 t280)).setCell ⟨gb272, 1, none⟩ (.int .u64 t281)).setCell ⟨gb272, 2, none⟩ (.slice Ao20 t282.length co20))) ?hg ?ho ?hn ?hr ?_; (case ho => rfl); (case hg => rfl); (case hn => rfl); (case hr => first | (go_simp; done) | (go_simp; rfl)); intro w21 hw; have n0_ : Aside0 (Kd.R Kd.string 9 w21 w.heap.size (fun k_ => some k_ ≠ (.slice Ao15 t275.length co15 : Value).ownBlock) (.slice Ao10 t268.length co10) t268) := ⟨(by rw [hw]; exact (by (with_reducible repeat (first | apply Kd.R_alloc | apply Kd.R_drewN | apply Kd.R_drew)); exact Kd.R_mono (Kd.R_far (p := ⟨gb272, 2, none⟩) (Kd.R_far (p := ⟨gb272, 1, none⟩) (Kd.R_far (p := ⟨gb272, 0, none⟩) (Kd.R_types HO270.out BK272.out (by decide)) (fun _ hk => hk.2) (.int .i64 t280)) (fun _ hk => hk.2) (.int .u64 t281)) (fun _ hk => hk.2) (.slice Ao20 t282.length co20)) (fun _ hk => hk.1)))⟩; have n1_ : Aside0 (Kd.R Kd.string 9 w21 w.heap.size (fun k_ => some k_ ≠ (.slice Ao10 t268.length co10 : Value).ownBlock) (.slice Ao15 t275.length co15) t275) := ⟨(by rw [hw]; exact (by (with_reducible repeat (first | apply Kd.R_alloc | apply Kd.R_drewN | apply Kd.R_drew)); exact Kd.R_mono (Kd.R_far (p := ⟨gb272, 2, none⟩) (Kd.R_far (p := ⟨gb272, 1, none⟩) (Kd.R_far (p := ⟨gb272, 0, none⟩) (Kd.R_types HO277.out BK272.out (by decide)) (fun _ hk => hk.2) (.int .i64 t280)) (fun _ hk => hk.2) (.int .u64 t281)) (fun _ hk => hk.2) (.slice Ao20 t282.length co20)) (fun _ hk => hk.1)))⟩; have n2_ : Aside0 (Kd.V Kd.string 9 w21 w.heap.size (fun k_ => some k_ ≠ (.slice Ao15 t275.length co15 : Value).ownBlock ∧ k_ ≠ gb272 ∧ k_ ≠ gb279) (.slice Ao20 t282.length co20) t282) := ⟨(by rw [hw]; exact (by (with_reducible repeat (first | apply Kd.V_alloc | apply Kd.V_drewN | apply Kd.V_drew)); exact Kd.V_mono (Kd.V_far (p := ⟨gb272, 2, none⟩) (Kd.V_far (p := ⟨gb272, 1, none⟩) (Kd.V_far (p := ⟨gb272, 0, none⟩) (Kd.V_mono HO284.out (fun k_ hk => (⟨hk, hk.2.1⟩ : _ ∧ k_ ≠ gb272))) (fun _ hk => hk.2) (.int .i64 t280)) (fun _ hk => hk.2) (.int .u64 t281)) (fun _ hk => hk.2) (.slice Ao20 t282.length co20)) (fun _ hk => ⟨hk.1.1, ⟨hk.1.2.1, hk.1.2.2⟩⟩)))⟩; have n3_ : Aside0 (Kd.V (Kd.int .u64) 24 w21 w.heap.size (fun k_ => some k_ ≠ (.slice Ao15 t275.length co15 : Value).ownBlock ∧ k_ ≠ gb272 ∧ k_ ≠ gb279) v286 t285) := ⟨(by rw [hw]; exact (by (with_reducible repeat (first | apply Kd.V_alloc | apply Kd.V_drewN | apply Kd.V_drew)); exact Kd.V_mono (Kd.V_far (p := ⟨gb272, 2, none⟩) (Kd.V_far (p := ⟨gb272, 1, none⟩) (Kd.V_far (p := ⟨gb272, 0, none⟩) (Kd.V_mono HO287.out (fun k_ hk => (⟨hk, hk.2.1⟩ : _ ∧ k_ ≠ gb272))) (fun _ hk => hk.2) (.int .i64 t280)) (fun _ hk => hk.2) (.int .u64 t281)) (fun _ hk => hk.2) (.slice Ao20 t282.length co20)) (fun _ hk => ⟨hk.1.1, ⟨hk.1.2.1, hk.1.2.2⟩⟩)))⟩; have n4_ : Aside0 (w21.heap[gb272]? = some (.cells #[.int .i64 t280, .int .u64 t281, .slice Ao20 t282.length co20] 27 (0, 0))) := ⟨(by rw [hw]; exact (by (with_reducible repeat (first | refine blk_drewN ?_ _ | refine blk_drew ?_ | refine blk_alloc ?_ _)); refine blk_put (cs := #[.int .i64 t280, .int .u64 t281, .slice Ao10 t268.length co10]) ?_ 2 _ rfl; (with_reducible repeat (first | refine blk_drewN ?_ _ | refine blk_drew ?_ | refine blk_alloc ?_ _)); refine blk_put (cs := #[.int .i64 t280, .int .u64 t267, .slice Ao10 t268.length co10]) ?_ 1 _ rfl; (with_reducible repeat (first | refine blk_drewN ?_ _ | refine blk_drew ?_ | refine blk_alloc ?_ _)); refine blk_put (cs := #[.int .i64 t266, .int .u64 t267, .slice Ao10 t268.length co10]) ?_ 0 _ rfl; (with_reducible repeat (first | refine blk_drewN ?_ _ | refine blk_drew ?_ | refine blk_alloc ?_ _)); exact BK272.out))⟩; have n5_ : Aside0 (w21.heap[gb279]? = some (.cells #[.int .i64 t273, .int .u64 t274, .slice Ao15 t275.length co15] 27 (0, 0))) := ⟨(by rw [hw]; exact (by (with_reducible repeat (first | refine blk_drewN ?_ _ | refine blk_drew ?_ | refine blk_alloc ?_ _)); refine blk_far ?_ NB279_272.out _; (with_reducible repeat (first | refine blk_drewN ?_ _ | refine blk_drew ?_ | refine blk_alloc ?_ _)); refine blk_far ?_ NB279_272.out _; (with_reducible repeat (first | refine blk_drewN ?_ _ | refine blk_drew ?_ | refine blk_alloc ?_ _)); refine blk_far ?_ NB279_272.out _; (with_reducible repeat (first | refine blk_drewN ?_ _ | refine blk_drew ?_ | refine blk_alloc ?_ _)); exact BK279.out))⟩; have n6_ : Aside0 (Below w.heap.size w w21) := ⟨(by rw [hw]; exact (by repeat (first | (with_reducible first | exact HB.out | apply below_alloc | apply pw_below_drewN | apply below_drew1 | refine below_set ?_ GE272.out | refine below_set ?_ GE279.out) | exact HB.out)))⟩; clear hw; clear HO270; clear HO277; clear HO284; clear HO287; clear BK272; clear BK279; clear HB; have HO270 := n0_; have HO277 := n1_; have HO284 := n2_; have HO287 := n3_; have BK272 := n4_; have BK279 := n5_; have HB := n6_; clear n0_ n1_ n2_ n3_ n4_ n5_ n6_; have hcz22_0 : w21.cell? ⟨gb279, 0, none⟩ = some (.int .i64 t273) := (blk_cell BK279.out 0).trans rfl; have hcz22_1 : w21.cell? ⟨gb279, 1, none⟩ = some (.int .u64 t274) := (blk_cell BK279.out 1).trans rfl; have hcz22_2 : w21.cell? ⟨gb279, 2, none⟩ = some (.slice Ao15 t275.length co15) := (blk_cell BK279.out 2).trans rfl; have hfz22_0 := blk_frozen BK279.out 0; have hfz22_1 := blk_frozen BK279.out 1; have hfz22_2 := blk_frozen BK279.out 2) | ((with_reducible refine gate_callee (f := 10) rfl ?_); refine goesL_ (some 49) rfl rfl Try.func10 (by kernel_rfl) rfl #[.agg #[.int .i64 t273, .int .u64 t274, .slice Ao15 t275.length co15], .string (⟨#[110, 101, 119]⟩ : ByteArray), .int .u64 (IntKind.u64.wrap (1 + (IntKind.u64.wrap (Int.tmod a1 60)))), .agg #[.slice none 0 0, .int .i64 0]] rfl (by (try simp only [List.map_toArray, List.map_cons, List.map_nil]); first | done | rfl | (simp only [List.length_drop, List.length_take]; rfl)) ?_; (refine (slots_Add.calls k t273 t274 (fun k_ => some k_ = (.slice Ao15 t275.length co15 : Value).ownBlock) _ _ t275 (⟨#[110, 101, 119]⟩ : ByteArray) (IntKind.u64.wrap (1 + (IntKind.u64.wrap (Int.tmod a1 60)))) (fun k_ => False) _ _ ([] : List Int) 0 t290 t291 t292 t295 t298 t299 _ ?side1 ?side2 A6.out).mono ?_); (case side1 => exact Kd.R_V (Kd.R_tight rfl (Kd.R_types (Kd.R_types (HO277.out) BK272.out (by decide)) BK279.out (by decide)))); (case side2 => exact Kd.V_nil _ _ _ _ _); rintro e w23 ⟨v293, v296, rfl, ho0, ho1, hb⟩; refine ⟨_, rfl, ?_⟩; have n0_ := Aside0.mk (Kd.R_below (by (with_reducible repeat (first | apply Kd.R_alloc | apply Kd.R_drewN | apply Kd.R_drew)); exact HO270.out) hb); have n1_ := Aside0.mk (Kd.R_below (by (with_reducible repeat (first | apply Kd.R_alloc | apply Kd.R_drewN | apply Kd.R_drew)); exact HO277.out) hb); have n2_ := Aside0.mk (Kd.V_below (by (with_reducible repeat (first | apply Kd.V_alloc | apply Kd.V_drewN | apply Kd.V_drew)); exact HO284.out) hb); have n3_ := Aside0.mk (Kd.V_below (by (with_reducible repeat (first | apply Kd.V_alloc | apply Kd.V_drewN | apply Kd.V_drew)); exact HO287.out) hb); have n4_ := Aside0.mk (Kd.V_lower (Kd.V_mono (ok' := fun k_ => some k_ ≠ (.slice Ao10 t268.length co10 : Value).ownBlock ∧ k_ ≠ gb272 ∧ k_ ≠ gb279) ho0 (fun k_ hk_ => ⟨Or.elim hk_ (fun hs_ => Or.elim hs_ (fun hs_ => ((Kd.R_types (Kd.R_types (HO277.out) BK272.out (by decide)) BK279.out (by decide)).1 k_ hs_.symm).1.1) (fun hs_ => (hs_).elim)) (fun hn_ => (Kd.fresh' (Kd.R_lt (by (with_reducible repeat (first | apply Kd.R_alloc | apply Kd.R_drewN | apply Kd.R_drew)); exact HO270.out)) k_ hn_)), Or.elim hk_ (fun hs_ => Or.elim hs_ (fun hs_ => ((Kd.R_types (Kd.R_types (HO277.out) BK272.out (by decide)) BK279.out (by decide)).1 k_ hs_.symm).1.2) (fun hs_ => (hs_).elim)) (fun hn_ => (Kd.freshB (g := gb272) (o := .cells #[.int .i64 t280, .int .u64 t281, .slice Ao20 t282.length co20] 27 (0, 0)) (by (with_reducible repeat (first | refine blk_drewN ?_ _ | refine blk_drew ?_ | refine blk_alloc ?_ _)); exact BK272.out) k_ hn_)), Or.elim hk_ (fun hs_ => Or.elim hs_ (fun hs_ => ((Kd.R_types (Kd.R_types (HO277.out) BK272.out (by decide)) BK279.out (by decide)).1 k_ hs_.symm).2) (fun hs_ => (hs_).elim)) (fun hn_ => (Kd.freshB (g := gb279) (o := .cells #[.int .i64 t273, .int .u64 t274, .slice Ao15 t275.length co15] 27 (0, 0)) (by (with_reducible repeat (first | refine blk_drewN ?_ _ | refine blk_drew ?_ | refine blk_alloc ?_ _)); exact BK279.out) k_ hn_))⟩)) (below_size (by repeat (first | (with_reducible first | exact HB.out | apply below_alloc | apply pw_below_drewN | apply below_drew1 | refine below_set ?_ GE272.out | refine below_set ?_ GE279.out) | exact HB.out)))); have n5_ := Aside0.mk (Kd.V_lower (Kd.V_mono (ok' := fun k_ => some k_ ≠ (.slice Ao10 t268.length co10 : Value).ownBlock ∧ k_ ≠ gb272 ∧ k_ ≠ gb279) ho1 (fun k_ hk_ => ⟨Or.elim hk_ (fun hs_ => Or.elim hs_ (fun hs_ => ((Kd.R_types (Kd.R_types (HO277.out) BK272.out (by decide)) BK279.out (by decide)).1 k_ hs_.symm).1.1) (fun hs_ => (hs_).elim)) (fun hn_ => (Kd.fresh' (Kd.R_lt (by (with_reducible repeat (first | apply Kd.R_alloc | apply Kd.R_drewN | apply Kd.R_drew)); exact HO270.out)) k_ hn_)), Or.elim hk_ (fun hs_ => Or.elim hs_ (fun hs_ => ((Kd.R_types (Kd.R_types (HO277.out) BK272.out (by decide)) BK279.out (by decide)).1 k_ hs_.symm).1.2) (fun hs_ => (hs_).elim)) (fun hn_ => (Kd.freshB (g := gb272) (o := .cells #[.int .i64 t280, .int .u64 t281, .slice Ao20 t282.length co20] 27 (0, 0)) (by (with_reducible repeat (first | refine blk_drewN ?_ _ | refine blk_drew ?_ | refine blk_alloc ?_ _)); exact BK272.out) k_ hn_)), Or.elim hk_ (fun hs_ => Or.elim hs_ (fun hs_ => ((Kd.R_types (Kd.R_types (HO277.out) BK272.out (by decide)) BK279.out (by decide)).1 k_ hs_.symm).2) (fun hs_ => (hs_).elim)) (fun hn_ => (Kd.freshB (g := gb279) (o := .cells #[.int .i64 t273, .int .u64 t274, .slice Ao15 t275.length co15] 27 (0, 0)) (by (with_reducible repeat (first | refine blk_drewN ?_ _ | refine blk_drew ?_ | refine blk_alloc ?_ _)); exact BK279.out) k_ hn_))⟩)) (below_size (by repeat (first | (with_reducible first | exact HB.out | apply below_alloc | apply pw_below_drewN | apply below_drew1 | refine below_set ?_ GE272.out | refine below_set ?_ GE279.out) | exact HB.out)))); have n6_ := Aside0.mk (blk_below (g := gb272) (o := .cells #[.int .i64 t280, .int .u64 t281, .slice Ao20 t282.length co20] 27 (0, 0)) (by (with_reducible repeat (first | refine blk_drewN ?_ _ | refine blk_drew ?_ | refine blk_alloc ?_ _)); exact BK272.out) hb); have n7_ := Aside0.mk (blk_below (g := gb279) (o := .cells #[.int .i64 t273, .int .u64 t274, .slice Ao15 t275.length co15] 27 (0, 0)) (by (with_reducible repeat (first | refine blk_drewN ?_ _ | refine blk_drew ?_ | refine blk_alloc ?_ _)); exact BK279.out) hb); have n8_ := Aside0.mk (below_step (by repeat (first | (with_reducible first | exact HB.out | apply below_alloc | apply pw_below_drewN | apply below_drew1 | refine below_set ?_ GE272.out | refine below_set ?_ GE279.out) | exact HB.out)) hb); clear HO270; clear HO277; clear HO284; clear HO287; clear BK272; clear BK279; clear HB; have HO270 := n0_; have HO277 := n1_; have HO284 := n2_; have HO287 := n3_; have HO294 := n4_; have HO297 := n5_; have BK272 := n6_; have BK279 := n7_; have HB := n8_; clear n0_ n1_ n2_ n3_ n4_ n5_ n6_ n7_ n8_; (try clear hb); (try clear hb2); (try clear hk); (try clear hi); (try clear ho0); (try clear ho1); have hcz24_0 : w23.cell? ⟨gb279, 0, none⟩ = some (.int .i64 t273) := (blk_cell BK279.out 0).trans rfl; have hcz24_1 : w23.cell? ⟨gb279, 1, none⟩ = some (.int .u64 t274) := (blk_cell BK279.out 1).trans rfl; have hcz24_2 : w23.cell? ⟨gb279, 2, none⟩ = some (.slice Ao15 t275.length co15) := (blk_cell BK279.out 2).trans rfl; have hfz24_0 := blk_frozen BK279.out 0; have hfz24_1 := blk_frozen BK279.out 1; have hfz24_2 := blk_frozen BK279.out 2; obtain ⟨Ao25, co25, eo25⟩ := Kd.V_slice HO294.out; subst eo25))
 go_loopg [11, 12, 56] k (fun kq v11 v12 v56 w' => ∃ (x11_1 : Int) (x12_1 : Int) (x56_1 : Int), v11 = .int .u64 x11_1 ∧ v12 = .int .u64 x12_1 ∧ v56 = .int .u64 x56_1 ∧ Aside0 (samphirelaw17_SlotsShare.l0 kq (IntKind.u64.wrap (1 + (IntKind.u64.wrap (Int.tmod a0 60)))) (IntKind.u64.wrap (1 + (IntKind.u64.wrap (Int.tmod a1 60)))) t271 t278 x11_1 x12_1 (IntKind.u64.wrap ((IntKind.u64.wrap (1 + (IntKind.u64.wrap (Int.tmod a0 60)))) + (IntKind.u64.wrap (1 + (IntKind.u64.wrap (Int.tmod a1 60)))))) x56_1 t280 t281 t282 t290 t291 t292 = some r) ∧ Aside0 (kq ≤ k) ∧ Aside0 (Kd.V Kd.string 9 w' w.heap.size (fun k_ => k_ ≠ gb272 ∧ k_ ≠ gb279) (.slice Ao20 t282.length co20) t282) ∧ Aside0 (Kd.V Kd.string 9 w' w.heap.size (fun k_ => k_ ≠ gb272 ∧ k_ ≠ gb279) (.slice Ao25 t292.length co25) t292) ∧ Aside0 (w'.heap[gb272]? = some (.cells #[.int .i64 t280, .int .u64 t281, (.slice Ao20 t282.length co20)] 27 (0, 0))) ∧ Aside0 (w'.heap[gb279]? = some (.cells #[.int .i64 t290, .int .u64 t291, (.slice Ao25 t292.length co25)] 27 (0, 0))) ∧ Aside0 (Below w.heap.size w w'))
 case atStart => exact ⟨(0), (0), (0), (by first | rfl | (simp; done) | (simp [*]; done)), (by first | rfl | (simp; done) | (simp [*]; done)), (by first | rfl | (simp; done) | (simp [*]; done)), H', ⟨Nat.le_refl _⟩, ⟨by (with_reducible repeat (first | apply Kd.V_alloc | apply Kd.V_drewN | apply Kd.V_drew)); exact Kd.V_mono (Kd.V_far (p := ⟨gb279, 2, none⟩) (Kd.V_far (p := ⟨gb279, 1, none⟩) (Kd.V_far (p := ⟨gb279, 0, none⟩) (Kd.V_mono HO284.out (fun k_ hk => (⟨hk, hk.2.2⟩ : _ ∧ k_ ≠ gb279))) (fun _ hk => hk.2) (.int .i64 t290)) (fun _ hk => hk.2) (.int .u64 t291)) (fun _ hk => hk.2) (.slice Ao25 t292.length co25)) (fun _ hk => ⟨hk.1.2.1, hk.1.2.2⟩)⟩, ⟨by (with_reducible repeat (first | apply Kd.V_alloc | apply Kd.V_drewN | apply Kd.V_drew)); exact Kd.V_mono (Kd.V_far (p := ⟨gb279, 2, none⟩) (Kd.V_far (p := ⟨gb279, 1, none⟩) (Kd.V_far (p := ⟨gb279, 0, none⟩) (Kd.V_mono HO294.out (fun k_ hk => (⟨hk, hk.2.2⟩ : _ ∧ k_ ≠ gb279))) (fun _ hk => hk.2) (.int .i64 t290)) (fun _ hk => hk.2) (.int .u64 t291)) (fun _ hk => hk.2) (.slice Ao25 t292.length co25)) (fun _ hk => ⟨hk.1.2.1, hk.1.2.2⟩)⟩, ⟨by (with_reducible repeat (first | refine blk_drewN ?_ _ | refine blk_drew ?_ | refine blk_alloc ?_ _)); refine blk_far ?_ NB272_279.out _; (with_reducible repeat (first | refine blk_drewN ?_ _ | refine blk_drew ?_ | refine blk_alloc ?_ _)); refine blk_far ?_ NB272_279.out _; (with_reducible repeat (first | refine blk_drewN ?_ _ | refine blk_drew ?_ | refine blk_alloc ?_ _)); refine blk_far ?_ NB272_279.out _; (with_reducible repeat (first | refine blk_drewN ?_ _ | refine blk_drew ?_ | refine blk_alloc ?_ _)); exact BK272.out⟩, ⟨by (with_reducible repeat (first | refine blk_drewN ?_ _ | refine blk_drew ?_ | refine blk_alloc ?_ _)); refine blk_put (cs := #[.int .i64 t290, .int .u64 t291, .slice Ao15 t275.length co15]) ?_ 2 _ rfl; (with_reducible repeat (first | refine blk_drewN ?_ _ | refine blk_drew ?_ | refine blk_alloc ?_ _)); refine blk_put (cs := #[.int .i64 t290, .int .u64 t274, .slice Ao15 t275.length co15]) ?_ 1 _ rfl; (with_reducible repeat (first | refine blk_drewN ?_ _ | refine blk_drew ?_ | refine blk_alloc ?_ _)); refine blk_put (cs := #[.int .i64 t273, .int .u64 t274, .slice Ao15 t275.length co15]) ?_ 0 _ rfl; (with_reducible repeat (first | refine blk_drewN ?_ _ | refine blk_drew ?_ | refine blk_alloc ?_ _)); exact BK279.out⟩, ⟨by repeat (first | (with_reducible first | exact HB.out | apply below_alloc | apply pw_below_drewN | apply below_drew1 | refine below_set ?_ GE272.out | refine below_set ?_ GE279.out) | exact HB.out)⟩⟩
 case round =>
  clear H'
  try clear c1
  try clear p2
  try clear c6
  try clear c8
  try clear c10
  try clear c13
  try clear hcz14_0
  try clear hcz14_1
  try clear hcz14_2
  try clear hcz17_0
  try clear hcz17_1
  try clear hcz17_2
  try clear hcz19_0
  try clear hcz19_1
  try clear hcz19_2
  try clear hcz22_0
  try clear hcz22_1
  try clear hcz22_2
  try clear hcz24_0
  try clear hcz24_1
  try clear hcz24_2
  try clear hcz9_0
  try clear hcz9_1
  try clear hcz9_2
  try clear hfz14_0
  try clear hfz14_1
  try clear hfz14_2
  try clear hfz17_0
  try clear hfz17_1
  try clear hfz17_2
  try clear hfz19_0
  try clear hfz19_1
  try clear hfz19_2
  try clear hfz22_0
  try clear hfz22_1
  try clear hfz22_2
  try clear hfz24_0
  try clear hfz24_1
  try clear hfz24_2
  try clear hfz9_0
  try clear hfz9_1
  try clear hfz9_2
  obtain ⟨x11_1, x12_1, x56_1, rfl, rfl, rfl, HA, HK1, HO_273002, HO_280002, BK272, BK279, HB⟩ := hrel
  cases gk with
  | zero => exact absurd HA.out (by simp [samphirelaw17_SlotsShare.l0])
  | succ k1 =>
   have H := HA.out
   clear HA
   simp only [samphirelaw17_SlotsShare.l0] at H
   by_cases c26 : x56_1 < (IntKind.u64.wrap ((IntKind.u64.wrap (1 + (IntKind.u64.wrap (Int.tmod a0 60)))) + (IntKind.u64.wrap (1 + (IntKind.u64.wrap (Int.tmod a1 60))))))
   ·
    rw [if_pos c26] at H
    have c26b0 : decide (x56_1 < (IntKind.u64.wrap ((IntKind.u64.wrap (1 + (IntKind.u64.wrap (Int.tmod a0 60)))) + (IntKind.u64.wrap (1 + (IntKind.u64.wrap (Int.tmod a1 60))))))) = true := decide_eq_true c26
    clear c26
    obtain ⟨y301, hy301⟩ : ∃ y_ : List Int, y_ = (([x56_1] : List Int)) := ⟨_, rfl⟩
    replace H : ((slots_Add.f k1 t280 t281 t282 (⟨#[110, 101, 119]⟩ : ByteArray) (IntKind.u64.wrap (1 + (IntKind.u64.wrap (Int.tmod a1 60)))) y301 0).bind fun bt305 => ((slots_Merge.f k1 t290 t291 t292 t280 t281 t282 y301 0).bind fun bt317 => (if bt305.2.2.2.2.2 = 0 then (if bt317.2.2.2.2.2 = 0 then (if (bt305.2.2.1.length : Int) = 1 then (if (bt317.2.2.1.length : Int) = 1 then (if bt305.2.2.2.2.1 = 1 then (if bt317.2.2.2.2.1 = 1 then (if bt305.2.1 = (IntKind.u64.wrap ((IntKind.u64.wrap (1 + (IntKind.u64.wrap (Int.tmod a0 60)))) + (IntKind.u64.wrap (1 + (IntKind.u64.wrap (Int.tmod a1 60)))))) then (samphirelaw17_SlotsShare.j1 k1 (IntKind.u64.wrap (1 + (IntKind.u64.wrap (Int.tmod a0 60)))) (IntKind.u64.wrap (1 + (IntKind.u64.wrap (Int.tmod a1 60)))) t271 t278 x11_1 x12_1 (IntKind.u64.wrap ((IntKind.u64.wrap (1 + (IntKind.u64.wrap (Int.tmod a0 60)))) + (IntKind.u64.wrap (1 + (IntKind.u64.wrap (Int.tmod a1 60)))))) x56_1 (bt317.2.1 != (IntKind.u64.wrap ((IntKind.u64.wrap (1 + (IntKind.u64.wrap (Int.tmod a0 60)))) + (IntKind.u64.wrap (1 + (IntKind.u64.wrap (Int.tmod a1 60))))))) t280 t281 t282 t290 t291 t292 bt305.1 bt305.2.1 bt305.2.2.1 bt317.1 bt317.2.1 bt317.2.2.1) else (none)) else (none)) else (none)) else (none)) else (none)) else (none)) else (none)))) = some r := by first | (rw [hy301]; with_reducible exact H) | (have H2_ := (Option.bind_some _ _).symm.trans H; rw [hy301]; with_reducible exact H2_) | (have H2_ := (Option.bind_some _ _).symm.trans H; with_reducible exact H2_) | with_reducible exact H | (rw [hy301]; exact H) | exact H
    have Ny301 := Aside0.mk hy301
    clear hy301
    replace H := Option.bind_eq_some_iff.mp H
    obtain ⟨⟨t305, t306, t307, t310, t313, t314⟩, A270, H⟩ := H
    replace H : ((slots_Merge.f k1 t290 t291 t292 t280 t281 t282 y301 0).bind fun bt317 => (if t314 = 0 then (if bt317.2.2.2.2.2 = 0 then (if (t307.length : Int) = 1 then (if (bt317.2.2.1.length : Int) = 1 then (if t313 = 1 then (if bt317.2.2.2.2.1 = 1 then (if t306 = (IntKind.u64.wrap ((IntKind.u64.wrap (1 + (IntKind.u64.wrap (Int.tmod a0 60)))) + (IntKind.u64.wrap (1 + (IntKind.u64.wrap (Int.tmod a1 60)))))) then (samphirelaw17_SlotsShare.j1 k1 (IntKind.u64.wrap (1 + (IntKind.u64.wrap (Int.tmod a0 60)))) (IntKind.u64.wrap (1 + (IntKind.u64.wrap (Int.tmod a1 60)))) t271 t278 x11_1 x12_1 (IntKind.u64.wrap ((IntKind.u64.wrap (1 + (IntKind.u64.wrap (Int.tmod a0 60)))) + (IntKind.u64.wrap (1 + (IntKind.u64.wrap (Int.tmod a1 60)))))) x56_1 (bt317.2.1 != (IntKind.u64.wrap ((IntKind.u64.wrap (1 + (IntKind.u64.wrap (Int.tmod a0 60)))) + (IntKind.u64.wrap (1 + (IntKind.u64.wrap (Int.tmod a1 60))))))) t280 t281 t282 t290 t291 t292 t305 t306 t307 bt317.1 bt317.2.1 bt317.2.2.1) else (none)) else (none)) else (none)) else (none)) else (none)) else (none)) else (none))) = some r := H
    have A27 := Aside0.mk A270
    clear A270
    replace H := Option.bind_eq_some_iff.mp H
    obtain ⟨⟨t317, t318, t319, t322, t325, t326⟩, A280, H⟩ := H
    replace H : (if t314 = 0 then (if t326 = 0 then (if (t307.length : Int) = 1 then (if (t319.length : Int) = 1 then (if t313 = 1 then (if t325 = 1 then (if t306 = (IntKind.u64.wrap ((IntKind.u64.wrap (1 + (IntKind.u64.wrap (Int.tmod a0 60)))) + (IntKind.u64.wrap (1 + (IntKind.u64.wrap (Int.tmod a1 60)))))) then (samphirelaw17_SlotsShare.j1 k1 (IntKind.u64.wrap (1 + (IntKind.u64.wrap (Int.tmod a0 60)))) (IntKind.u64.wrap (1 + (IntKind.u64.wrap (Int.tmod a1 60)))) t271 t278 x11_1 x12_1 (IntKind.u64.wrap ((IntKind.u64.wrap (1 + (IntKind.u64.wrap (Int.tmod a0 60)))) + (IntKind.u64.wrap (1 + (IntKind.u64.wrap (Int.tmod a1 60)))))) x56_1 (t318 != (IntKind.u64.wrap ((IntKind.u64.wrap (1 + (IntKind.u64.wrap (Int.tmod a0 60)))) + (IntKind.u64.wrap (1 + (IntKind.u64.wrap (Int.tmod a1 60))))))) t280 t281 t282 t290 t291 t292 t305 t306 t307 t317 t318 t319) else (none)) else (none)) else (none)) else (none)) else (none)) else (none)) else (none)) = some r := H
    have A28 := Aside0.mk A280
    clear A280
    have HC29 := Aside0.mk H
    clear H
    go_upto_region 13 with (first | ((with_reducible refine gate_dst (N := 60) rfl ?_); (try (refine gate_guard (by rfl) ?_; dsimp only)); refine Kd.R_lit (Kd.int .u64) _ 24 ?hg (N := 60) ?hd (xs := ([x56_1] : List Int)) (inner := [.int .u64 x56_1]) (ok := fun _ => True) (okp := fun _ => True) ?hr ?hp (fun _ hk => hk) trivial (Below.refl _ _) (Nat.le_refl _) (by simp) ?_; (case hd => rfl); (case hg => rfl); (case hr => first | (go_simp; done) | (go_simp; rfl)); (case hp => exact (Reps.one (show Kd.M (Kd.int .u64) _ _ _ x56_1 [.int .u64 x56_1] from rfl) (Reps.none _ _))); intro v302 w30 ho31 hb hg_ hnew_; clear hg_ hnew_; (first | rw [← Ny301.out] at ho31 | (simp only [Int.reduceToNat] at ho31; rw [← Ny301.out] at ho31)); have n0_ := Aside0.mk (Kd.V_elder' (by (with_reducible repeat (first | apply Kd.V_alloc | apply Kd.V_drewN | apply Kd.V_drew)); exact HO_273002.out) (Kd.R_base ho31) hb); have n1_ := Aside0.mk (Kd.V_elder' (by (with_reducible repeat (first | apply Kd.V_alloc | apply Kd.V_drewN | apply Kd.V_drew)); exact HO_280002.out) (Kd.R_base ho31) hb); have n2_ := Aside0.mk (Kd.R_lower ho31 (below_size (by repeat (first | (with_reducible first | exact HB.out | apply below_alloc | apply pw_below_drewN | apply below_drew1 | refine below_set ?_ GE272.out | refine below_set ?_ GE279.out) | exact HB.out)))); have n3_ := Aside0.mk (blk_below (g := gb272) (o := .cells #[.int .i64 t280, .int .u64 t281, .slice Ao20 t282.length co20] 27 (0, 0)) (by (with_reducible repeat (first | refine blk_drewN ?_ _ | refine blk_drew ?_ | refine blk_alloc ?_ _)); exact BK272.out) hb); have n4_ := Aside0.mk (blk_below (g := gb279) (o := .cells #[.int .i64 t290, .int .u64 t291, .slice Ao25 t292.length co25] 27 (0, 0)) (by (with_reducible repeat (first | refine blk_drewN ?_ _ | refine blk_drew ?_ | refine blk_alloc ?_ _)); exact BK279.out) hb); have n5_ := Aside0.mk (below_step (by repeat (first | (with_reducible first | exact HB.out | apply below_alloc | apply pw_below_drewN | apply below_drew1 | refine below_set ?_ GE272.out | refine below_set ?_ GE279.out) | exact HB.out)) hb); clear HO_273002; clear HO_280002; clear BK272; clear BK279; clear HB; have HO_273002 := n0_; have HO_280002 := n1_; have HO303 := n2_; have BK272 := n3_; have BK279 := n4_; have HB := n5_; clear n0_ n1_ n2_ n3_ n4_ n5_; clear hb ho31; obtain ⟨Ao32, co32, eo32⟩ := Kd.R_slice HO303.out; subst eo32) | ((with_reducible refine gate_dst (N := 14) rfl ?_); (try (refine gate_guard (by rfl) ?_; dsimp only)); refine box_event ?hg (N := 14) ?hd (cs := #[.slice none 0 0, .int .i64 0]) (t := 33) ?hr ?_; (case hd => rfl); (case hg => rfl); (case hr => first | (go_simp; done) | (go_simp; rfl)); intro gb304 hg w33 hbox hb; have n0_ := Aside0.mk (Kd.V_below (Kd.V_elderB (by (with_reducible repeat (first | apply Kd.V_alloc | apply Kd.V_drewN | apply Kd.V_drew)); exact HO_273002.out) gb304 (Nat.le_of_eq hg.symm)) hb); have n1_ := Aside0.mk (Kd.V_below (Kd.V_elderB (by (with_reducible repeat (first | apply Kd.V_alloc | apply Kd.V_drewN | apply Kd.V_drew)); exact HO_280002.out) gb304 (Nat.le_of_eq hg.symm)) hb); have n2_ := Aside0.mk (Kd.R_below (by (with_reducible repeat (first | apply Kd.R_alloc | apply Kd.R_drewN | apply Kd.R_drew)); exact HO303.out) hb); have n3_ := Aside0.mk (blk_below (g := gb272) (o := .cells #[.int .i64 t280, .int .u64 t281, .slice Ao20 t282.length co20] 27 (0, 0)) (by (with_reducible repeat (first | refine blk_drewN ?_ _ | refine blk_drew ?_ | refine blk_alloc ?_ _)); exact BK272.out) hb); have n4_ := Aside0.mk (blk_below (g := gb279) (o := .cells #[.int .i64 t290, .int .u64 t291, .slice Ao25 t292.length co25] 27 (0, 0)) (by (with_reducible repeat (first | refine blk_drewN ?_ _ | refine blk_drew ?_ | refine blk_alloc ?_ _)); exact BK279.out) hb); have n5_ := Aside0.mk (below_step (by repeat (first | (with_reducible first | exact HB.out | apply below_alloc | apply pw_below_drewN | apply below_drew1 | refine below_set ?_ GE272.out | refine below_set ?_ GE279.out) | exact HB.out)) hb); have n6_ := Aside0.mk (hbox); have n7_ := Aside0.mk ((by rw [hg]; exact (below_size (by repeat (first | (with_reducible first | exact HB.out | apply below_alloc | apply pw_below_drewN | apply below_drew1 | refine below_set ?_ GE272.out | refine below_set ?_ GE279.out) | exact HB.out))) : w.heap.size ≤ gb304)); have n8_ := Aside0.mk ((by rw [hg]; exact (below_size (by repeat (first | (with_reducible first | exact HB.out | apply below_alloc | apply pw_below_drewN | apply below_drew1 | refine below_set ?_ GE272.out | refine below_set ?_ GE279.out) | exact HB.out))) : w.heap.size ≤ gb304)); have n9_ := Aside0.mk ((by rw [hg]; exact Nat.ne_of_lt (blk_lt (g := gb272) (o := .cells #[.int .i64 t280, .int .u64 t281, .slice Ao20 t282.length co20] 27 (0, 0)) (by (with_reducible repeat (first | refine blk_drewN ?_ _ | refine blk_drew ?_ | refine blk_alloc ?_ _)); exact BK272.out)) : gb272 ≠ gb304)); have n10_ := Aside0.mk ((by rw [hg]; exact Nat.ne_of_gt (blk_lt (g := gb272) (o := .cells #[.int .i64 t280, .int .u64 t281, .slice Ao20 t282.length co20] 27 (0, 0)) (by (with_reducible repeat (first | refine blk_drewN ?_ _ | refine blk_drew ?_ | refine blk_alloc ?_ _)); exact BK272.out)) : gb304 ≠ gb272)); have n11_ := Aside0.mk ((by rw [hg]; exact Nat.ne_of_lt (blk_lt (g := gb279) (o := .cells #[.int .i64 t290, .int .u64 t291, .slice Ao25 t292.length co25] 27 (0, 0)) (by (with_reducible repeat (first | refine blk_drewN ?_ _ | refine blk_drew ?_ | refine blk_alloc ?_ _)); exact BK279.out)) : gb279 ≠ gb304)); have n12_ := Aside0.mk ((by rw [hg]; exact Nat.ne_of_gt (blk_lt (g := gb279) (o := .cells #[.int .i64 t290, .int .u64 t291, .slice Ao25 t292.length co25] 27 (0, 0)) (by (with_reducible repeat (first | refine blk_drewN ?_ _ | refine blk_drew ?_ | refine blk_alloc ?_ _)); exact BK279.out)) : gb304 ≠ gb279)); clear HO_273002; clear HO_280002; clear HO303; clear BK272; clear BK279; clear HB; have HO_273002 := n0_; have HO_280002 := n1_; have HO303 := n2_; have BK272 := n3_; have BK279 := n4_; have HB := n5_; have BK304 := n6_; have GW304 := n7_; have GE304 := n8_; have NB272_304 := n9_; have NB304_272 := n10_; have NB279_304 := n11_; have NB304_279 := n12_; clear n0_ n1_ n2_ n3_ n4_ n5_ n6_ n7_ n8_ n9_ n10_ n11_ n12_; clear hb hbox hg; have hnb34 := NB304_272.out; have hnc34 := NB272_304.out; have hnb35 := NB304_279.out; have hnc35 := NB279_304.out; have hcz36_0 : w33.cell? ⟨gb304, 0, none⟩ = some (.slice none 0 0) := (blk_cell BK304.out 0).trans rfl; have hcz36_1 : w33.cell? ⟨gb304, 1, none⟩ = some (.int .i64 0) := (blk_cell BK304.out 1).trans rfl; have hfz36_0 := blk_frozen BK304.out 0; have hfz36_1 := blk_frozen BK304.out 1) | ((with_reducible refine gate_store (t := 33) (p := 14) rfl ?_); refine store_event (t := 33) (p := 14) (v := ?vo_w37) (w1 := ((w33.setCell ⟨gb304, 0, none⟩ (.slice Ao32 y301.length co32)).setCell ⟨gb304, 1, none⟩ (.int .i64 0))) ?hg ?ho ?hn ?hr ?_; (case ho => rfl); (case hg => rfl); (case hn => rfl); (case hr => first | (go_simp; done) | (go_simp; rfl)); intro w37 hw; have n0_ : Aside0 (Kd.V Kd.string 9 w37 w.heap.size (fun k_ => some k_ ≠ (.slice Ao32 y301.length co32 : Value).ownBlock ∧ k_ ≠ gb272 ∧ k_ ≠ gb279 ∧ k_ ≠ gb304) (.slice Ao20 t282.length co20) t282) := ⟨(by rw [hw]; exact (by (with_reducible repeat (first | apply Kd.V_alloc | apply Kd.V_drewN | apply Kd.V_drew)); exact Kd.V_mono (Kd.V_far (p := ⟨gb304, 1, none⟩) (Kd.V_far (p := ⟨gb304, 0, none⟩) (Kd.V_mono HO_273002.out (fun k_ hk => (⟨hk, hk.2⟩ : _ ∧ k_ ≠ gb304))) (fun _ hk => hk.2) (.slice Ao32 y301.length co32)) (fun _ hk => hk.2) (.int .i64 0)) (fun _ hk => ⟨hk.1.1.2, ⟨hk.1.1.1.1, ⟨hk.1.1.1.2, hk.1.2⟩⟩⟩)))⟩; have n1_ : Aside0 (Kd.V Kd.string 9 w37 w.heap.size (fun k_ => some k_ ≠ (.slice Ao32 y301.length co32 : Value).ownBlock ∧ k_ ≠ gb272 ∧ k_ ≠ gb279 ∧ k_ ≠ gb304) (.slice Ao25 t292.length co25) t292) := ⟨(by rw [hw]; exact (by (with_reducible repeat (first | apply Kd.V_alloc | apply Kd.V_drewN | apply Kd.V_drew)); exact Kd.V_mono (Kd.V_far (p := ⟨gb304, 1, none⟩) (Kd.V_far (p := ⟨gb304, 0, none⟩) (Kd.V_mono HO_280002.out (fun k_ hk => (⟨hk, hk.2⟩ : _ ∧ k_ ≠ gb304))) (fun _ hk => hk.2) (.slice Ao32 y301.length co32)) (fun _ hk => hk.2) (.int .i64 0)) (fun _ hk => ⟨hk.1.1.2, ⟨hk.1.1.1.1, ⟨hk.1.1.1.2, hk.1.2⟩⟩⟩)))⟩; have n2_ : Aside0 (Kd.R (Kd.int .u64) 24 w37 w.heap.size (fun _ => True) (.slice Ao32 y301.length co32) y301) := ⟨(by rw [hw]; exact (by (with_reducible repeat (first | apply Kd.R_alloc | apply Kd.R_drewN | apply Kd.R_drew)); exact Kd.R_mono (Kd.R_far (p := ⟨gb304, 1, none⟩) (Kd.R_far (p := ⟨gb304, 0, none⟩) (Kd.R_types HO303.out BK304.out (by decide)) (fun _ hk => hk.2) (.slice Ao32 y301.length co32)) (fun _ hk => hk.2) (.int .i64 0)) (fun _ hk => trivial)))⟩; have n3_ : Aside0 (w37.heap[gb272]? = some (.cells #[.int .i64 t280, .int .u64 t281, .slice Ao20 t282.length co20] 27 (0, 0))) := ⟨(by rw [hw]; exact (by (with_reducible repeat (first | refine blk_drewN ?_ _ | refine blk_drew ?_ | refine blk_alloc ?_ _)); refine blk_far ?_ NB272_304.out _; (with_reducible repeat (first | refine blk_drewN ?_ _ | refine blk_drew ?_ | refine blk_alloc ?_ _)); refine blk_far ?_ NB272_304.out _; (with_reducible repeat (first | refine blk_drewN ?_ _ | refine blk_drew ?_ | refine blk_alloc ?_ _)); exact BK272.out))⟩; have n4_ : Aside0 (w37.heap[gb279]? = some (.cells #[.int .i64 t290, .int .u64 t291, .slice Ao25 t292.length co25] 27 (0, 0))) := ⟨(by rw [hw]; exact (by (with_reducible repeat (first | refine blk_drewN ?_ _ | refine blk_drew ?_ | refine blk_alloc ?_ _)); refine blk_far ?_ NB279_304.out _; (with_reducible repeat (first | refine blk_drewN ?_ _ | refine blk_drew ?_ | refine blk_alloc ?_ _)); refine blk_far ?_ NB279_304.out _; (with_reducible repeat (first | refine blk_drewN ?_ _ | refine blk_drew ?_ | refine blk_alloc ?_ _)); exact BK279.out))⟩; have n5_ : Aside0 (w37.heap[gb304]? = some (.cells #[.slice Ao32 y301.length co32, .int .i64 0] 33 (0, 0))) := ⟨(by rw [hw]; exact (by (with_reducible repeat (first | refine blk_drewN ?_ _ | refine blk_drew ?_ | refine blk_alloc ?_ _)); refine blk_put (cs := #[.slice Ao32 y301.length co32, .int .i64 0]) ?_ 1 _ rfl; (with_reducible repeat (first | refine blk_drewN ?_ _ | refine blk_drew ?_ | refine blk_alloc ?_ _)); refine blk_put (cs := #[.slice none 0 0, .int .i64 0]) ?_ 0 _ rfl; (with_reducible repeat (first | refine blk_drewN ?_ _ | refine blk_drew ?_ | refine blk_alloc ?_ _)); exact BK304.out))⟩; have n6_ : Aside0 (Below w.heap.size w w37) := ⟨(by rw [hw]; exact (by repeat (first | (with_reducible first | exact HB.out | apply below_alloc | apply pw_below_drewN | apply below_drew1 | refine below_set ?_ GE272.out | refine below_set ?_ GE279.out | refine below_set ?_ GE304.out) | exact HB.out)))⟩; clear hw; clear HO_273002; clear HO_280002; clear HO303; clear BK272; clear BK279; clear BK304; clear HB; have HO_273002 := n0_; have HO_280002 := n1_; have HO303 := n2_; have BK272 := n3_; have BK279 := n4_; have BK304 := n5_; have HB := n6_; clear n0_ n1_ n2_ n3_ n4_ n5_ n6_; have hnb38 := NB272_279.out; have hnc38 := NB279_272.out; have hcz39_0 : w37.cell? ⟨gb272, 0, none⟩ = some (.int .i64 t280) := (blk_cell BK272.out 0).trans rfl; have hcz39_1 : w37.cell? ⟨gb272, 1, none⟩ = some (.int .u64 t281) := (blk_cell BK272.out 1).trans rfl; have hcz39_2 : w37.cell? ⟨gb272, 2, none⟩ = some (.slice Ao20 t282.length co20) := (blk_cell BK272.out 2).trans rfl; have hfz39_0 := blk_frozen BK272.out 0; have hfz39_1 := blk_frozen BK272.out 1; have hfz39_2 := blk_frozen BK272.out 2; have hcz40_0 : w37.cell? ⟨gb304, 0, none⟩ = some (.slice Ao32 y301.length co32) := (blk_cell BK304.out 0).trans rfl; have hcz40_1 : w37.cell? ⟨gb304, 1, none⟩ = some (.int .i64 0) := (blk_cell BK304.out 1).trans rfl; have hfz40_0 := blk_frozen BK304.out 0; have hfz40_1 := blk_frozen BK304.out 1) | ((with_reducible refine gate_callee (f := 10) rfl ?_); refine goesL_ (some 66) rfl rfl Try.func10 (by kernel_rfl) rfl #[.agg #[.int .i64 t280, .int .u64 t281, .slice Ao20 t282.length co20], .string (⟨#[110, 101, 119]⟩ : ByteArray), .int .u64 (IntKind.u64.wrap (1 + (IntKind.u64.wrap (Int.tmod a1 60)))), .agg #[.slice Ao32 y301.length co32, .int .i64 0]] rfl (by (try simp only [List.map_toArray, List.map_cons, List.map_nil]); first | done | rfl | (simp only [List.length_drop, List.length_take]; rfl)) ?_; (with_reducible refine (slots_Add.calls k1 t280 t281 (fun k_ => (some k_ ≠ (.slice Ao32 y301.length co32 : Value).ownBlock ∧ (k_ ≠ gb272 ∧ (k_ ≠ gb279 ∧ k_ ≠ gb304)))) _ _ t282 (⟨#[110, 101, 119]⟩ : ByteArray) (IntKind.u64.wrap (1 + (IntKind.u64.wrap (Int.tmod a1 60)))) (fun k_ => some k_ = (.slice Ao32 y301.length co32 : Value).ownBlock) _ _ y301 0 t305 t306 t307 t310 t313 t314 _ ?side1 ?side2 A27.out).mono ?_); (case side1 => exact HO_273002.out); (case side2 => exact Kd.R_V (Kd.R_tight rfl (Kd.R_types (Kd.R_types (Kd.R_types (HO303.out) BK272.out (by decide)) BK279.out (by decide)) BK304.out (by decide)))); rintro e w41 ⟨v308, v311, rfl, ho0, ho1, hb⟩; refine ⟨_, rfl, ?_⟩; have n0_ := Aside0.mk (Kd.V_below (by (with_reducible repeat (first | apply Kd.V_alloc | apply Kd.V_drewN | apply Kd.V_drew)); exact HO_273002.out) hb); have n1_ := Aside0.mk (Kd.V_below (by (with_reducible repeat (first | apply Kd.V_alloc | apply Kd.V_drewN | apply Kd.V_drew)); exact HO_280002.out) hb); have n2_ := Aside0.mk (Kd.R_below (by (with_reducible repeat (first | apply Kd.R_alloc | apply Kd.R_drewN | apply Kd.R_drew)); exact HO303.out) hb); have n3_ := Aside0.mk (Kd.V_lower (Kd.V_mono (ok' := fun k_ => k_ ≠ gb272 ∧ k_ ≠ gb279 ∧ k_ ≠ gb304) ho0 (fun k_ hk_ => ⟨Or.elim hk_ (fun hs_ => Or.elim hs_ (fun hs_ => hs_.2.1) (fun hs_ => ((Kd.R_types (Kd.R_types (Kd.R_types (HO303.out) BK272.out (by decide)) BK279.out (by decide)) BK304.out (by decide)).1 k_ hs_.symm).1.1.2)) (fun hn_ => (Kd.freshB (g := gb272) (o := .cells #[.int .i64 t280, .int .u64 t281, .slice Ao20 t282.length co20] 27 (0, 0)) (by (with_reducible repeat (first | refine blk_drewN ?_ _ | refine blk_drew ?_ | refine blk_alloc ?_ _)); exact BK272.out) k_ hn_)), Or.elim hk_ (fun hs_ => Or.elim hs_ (fun hs_ => hs_.2.2.1) (fun hs_ => ((Kd.R_types (Kd.R_types (Kd.R_types (HO303.out) BK272.out (by decide)) BK279.out (by decide)) BK304.out (by decide)).1 k_ hs_.symm).1.2)) (fun hn_ => (Kd.freshB (g := gb279) (o := .cells #[.int .i64 t290, .int .u64 t291, .slice Ao25 t292.length co25] 27 (0, 0)) (by (with_reducible repeat (first | refine blk_drewN ?_ _ | refine blk_drew ?_ | refine blk_alloc ?_ _)); exact BK279.out) k_ hn_)), Or.elim hk_ (fun hs_ => Or.elim hs_ (fun hs_ => hs_.2.2.2) (fun hs_ => ((Kd.R_types (Kd.R_types (Kd.R_types (HO303.out) BK272.out (by decide)) BK279.out (by decide)) BK304.out (by decide)).1 k_ hs_.symm).2)) (fun hn_ => (Kd.freshB (g := gb304) (o := .cells #[.slice Ao32 y301.length co32, .int .i64 0] 33 (0, 0)) (by (with_reducible repeat (first | refine blk_drewN ?_ _ | refine blk_drew ?_ | refine blk_alloc ?_ _)); exact BK304.out) k_ hn_))⟩)) (below_size (by repeat (first | (with_reducible first | exact HB.out | apply below_alloc | apply pw_below_drewN | apply below_drew1 | refine below_set ?_ GE272.out | refine below_set ?_ GE279.out | refine below_set ?_ GE304.out) | exact HB.out)))); have n4_ := Aside0.mk (Kd.V_lower (Kd.V_mono (ok' := fun k_ => k_ ≠ gb272 ∧ k_ ≠ gb279 ∧ k_ ≠ gb304) ho1 (fun k_ hk_ => ⟨Or.elim hk_ (fun hs_ => Or.elim hs_ (fun hs_ => hs_.2.1) (fun hs_ => ((Kd.R_types (Kd.R_types (Kd.R_types (HO303.out) BK272.out (by decide)) BK279.out (by decide)) BK304.out (by decide)).1 k_ hs_.symm).1.1.2)) (fun hn_ => (Kd.freshB (g := gb272) (o := .cells #[.int .i64 t280, .int .u64 t281, .slice Ao20 t282.length co20] 27 (0, 0)) (by (with_reducible repeat (first | refine blk_drewN ?_ _ | refine blk_drew ?_ | refine blk_alloc ?_ _)); exact BK272.out) k_ hn_)), Or.elim hk_ (fun hs_ => Or.elim hs_ (fun hs_ => hs_.2.2.1) (fun hs_ => ((Kd.R_types (Kd.R_types (Kd.R_types (HO303.out) BK272.out (by decide)) BK279.out (by decide)) BK304.out (by decide)).1 k_ hs_.symm).1.2)) (fun hn_ => (Kd.freshB (g := gb279) (o := .cells #[.int .i64 t290, .int .u64 t291, .slice Ao25 t292.length co25] 27 (0, 0)) (by (with_reducible repeat (first | refine blk_drewN ?_ _ | refine blk_drew ?_ | refine blk_alloc ?_ _)); exact BK279.out) k_ hn_)), Or.elim hk_ (fun hs_ => Or.elim hs_ (fun hs_ => hs_.2.2.2) (fun hs_ => ((Kd.R_types (Kd.R_types (Kd.R_types (HO303.out) BK272.out (by decide)) BK279.out (by decide)) BK304.out (by decide)).1 k_ hs_.symm).2)) (fun hn_ => (Kd.freshB (g := gb304) (o := .cells #[.slice Ao32 y301.length co32, .int .i64 0] 33 (0, 0)) (by (with_reducible repeat (first | refine blk_drewN ?_ _ | refine blk_drew ?_ | refine blk_alloc ?_ _)); exact BK304.out) k_ hn_))⟩)) (below_size (by repeat (first | (with_reducible first | exact HB.out | apply below_alloc | apply pw_below_drewN | apply below_drew1 | refine below_set ?_ GE272.out | refine below_set ?_ GE279.out | refine below_set ?_ GE304.out) | exact HB.out)))); have n5_ := Aside0.mk (blk_below (g := gb272) (o := .cells #[.int .i64 t280, .int .u64 t281, .slice Ao20 t282.length co20] 27 (0, 0)) (by (with_reducible repeat (first | refine blk_drewN ?_ _ | refine blk_drew ?_ | refine blk_alloc ?_ _)); exact BK272.out) hb); have n6_ := Aside0.mk (blk_below (g := gb279) (o := .cells #[.int .i64 t290, .int .u64 t291, .slice Ao25 t292.length co25] 27 (0, 0)) (by (with_reducible repeat (first | refine blk_drewN ?_ _ | refine blk_drew ?_ | refine blk_alloc ?_ _)); exact BK279.out) hb); have n7_ := Aside0.mk (blk_below (g := gb304) (o := .cells #[.slice Ao32 y301.length co32, .int .i64 0] 33 (0, 0)) (by (with_reducible repeat (first | refine blk_drewN ?_ _ | refine blk_drew ?_ | refine blk_alloc ?_ _)); exact BK304.out) hb); have n8_ := Aside0.mk (below_step (by repeat (first | (with_reducible first | exact HB.out | apply below_alloc | apply pw_below_drewN | apply below_drew1 | refine below_set ?_ GE272.out | refine below_set ?_ GE279.out | refine below_set ?_ GE304.out) | exact HB.out)) hb); clear HO_273002; clear HO_280002; clear HO303; clear BK272; clear BK279; clear BK304; clear HB; have HO_273002 := n0_; have HO_280002 := n1_; have HO303 := n2_; have HO309 := n3_; have HO312 := n4_; have BK272 := n5_; have BK279 := n6_; have BK304 := n7_; have HB := n8_; clear n0_ n1_ n2_ n3_ n4_ n5_ n6_ n7_ n8_; (try clear hb); (try clear hb2); (try clear hk); (try clear hi); (try clear ho0); (try clear ho1)) | ((with_reducible refine gate_dst (N := 15) rfl ?_); (try (refine gate_guard (by rfl) ?_; dsimp only)); refine box_event ?hg (N := 15) ?hd (cs := #[.int .i64 0, .int .u64 0, .slice none 0 0]) (t := 27) ?hr ?_; (case hd => rfl); (case hg => rfl); (case hr => first | (go_simp; done) | (go_simp; rfl)); intro gb315 hg w42 hbox hb; have n0_ := Aside0.mk (Kd.V_below (Kd.V_elderB (by (with_reducible repeat (first | apply Kd.V_alloc | apply Kd.V_drewN | apply Kd.V_drew)); exact HO_273002.out) gb315 (Nat.le_of_eq hg.symm)) hb); have n1_ := Aside0.mk (Kd.V_below (Kd.V_elderB (by (with_reducible repeat (first | apply Kd.V_alloc | apply Kd.V_drewN | apply Kd.V_drew)); exact HO_280002.out) gb315 (Nat.le_of_eq hg.symm)) hb); have n2_ := Aside0.mk (Kd.R_below (by (with_reducible repeat (first | apply Kd.R_alloc | apply Kd.R_drewN | apply Kd.R_drew)); exact HO303.out) hb); have n3_ := Aside0.mk (Kd.V_below (Kd.V_elderB (by (with_reducible repeat (first | apply Kd.V_alloc | apply Kd.V_drewN | apply Kd.V_drew)); exact HO309.out) gb315 (Nat.le_of_eq hg.symm)) hb); have n4_ := Aside0.mk (Kd.V_below (Kd.V_elderB (by (with_reducible repeat (first | apply Kd.V_alloc | apply Kd.V_drewN | apply Kd.V_drew)); exact HO312.out) gb315 (Nat.le_of_eq hg.symm)) hb); have n5_ := Aside0.mk (blk_below (g := gb272) (o := .cells #[.int .i64 t280, .int .u64 t281, .slice Ao20 t282.length co20] 27 (0, 0)) (by (with_reducible repeat (first | refine blk_drewN ?_ _ | refine blk_drew ?_ | refine blk_alloc ?_ _)); exact BK272.out) hb); have n6_ := Aside0.mk (blk_below (g := gb279) (o := .cells #[.int .i64 t290, .int .u64 t291, .slice Ao25 t292.length co25] 27 (0, 0)) (by (with_reducible repeat (first | refine blk_drewN ?_ _ | refine blk_drew ?_ | refine blk_alloc ?_ _)); exact BK279.out) hb); have n7_ := Aside0.mk (blk_below (g := gb304) (o := .cells #[.slice Ao32 y301.length co32, .int .i64 0] 33 (0, 0)) (by (with_reducible repeat (first | refine blk_drewN ?_ _ | refine blk_drew ?_ | refine blk_alloc ?_ _)); exact BK304.out) hb); have n8_ := Aside0.mk (below_step (by repeat (first | (with_reducible first | exact HB.out | apply below_alloc | apply pw_below_drewN | apply below_drew1 | refine below_set ?_ GE272.out | refine below_set ?_ GE279.out | refine below_set ?_ GE304.out) | exact HB.out)) hb); have n9_ := Aside0.mk (hbox); have n10_ := Aside0.mk ((by rw [hg]; exact (below_size (by repeat (first | (with_reducible first | exact HB.out | apply below_alloc | apply pw_below_drewN | apply below_drew1 | refine below_set ?_ GE272.out | refine below_set ?_ GE279.out | refine below_set ?_ GE304.out) | exact HB.out))) : w.heap.size ≤ gb315)); have n11_ := Aside0.mk ((by rw [hg]; exact (below_size (by repeat (first | (with_reducible first | exact HB.out | apply below_alloc | apply pw_below_drewN | apply below_drew1 | refine below_set ?_ GE272.out | refine below_set ?_ GE279.out | refine below_set ?_ GE304.out) | exact HB.out))) : w.heap.size ≤ gb315)); have n12_ := Aside0.mk ((by rw [hg]; exact Nat.ne_of_lt (blk_lt (g := gb272) (o := .cells #[.int .i64 t280, .int .u64 t281, .slice Ao20 t282.length co20] 27 (0, 0)) (by (with_reducible repeat (first | refine blk_drewN ?_ _ | refine blk_drew ?_ | refine blk_alloc ?_ _)); exact BK272.out)) : gb272 ≠ gb315)); have n13_ := Aside0.mk ((by rw [hg]; exact Nat.ne_of_gt (blk_lt (g := gb272) (o := .cells #[.int .i64 t280, .int .u64 t281, .slice Ao20 t282.length co20] 27 (0, 0)) (by (with_reducible repeat (first | refine blk_drewN ?_ _ | refine blk_drew ?_ | refine blk_alloc ?_ _)); exact BK272.out)) : gb315 ≠ gb272)); have n14_ := Aside0.mk ((by rw [hg]; exact Nat.ne_of_lt (blk_lt (g := gb279) (o := .cells #[.int .i64 t290, .int .u64 t291, .slice Ao25 t292.length co25] 27 (0, 0)) (by (with_reducible repeat (first | refine blk_drewN ?_ _ | refine blk_drew ?_ | refine blk_alloc ?_ _)); exact BK279.out)) : gb279 ≠ gb315)); have n15_ := Aside0.mk ((by rw [hg]; exact Nat.ne_of_gt (blk_lt (g := gb279) (o := .cells #[.int .i64 t290, .int .u64 t291, .slice Ao25 t292.length co25] 27 (0, 0)) (by (with_reducible repeat (first | refine blk_drewN ?_ _ | refine blk_drew ?_ | refine blk_alloc ?_ _)); exact BK279.out)) : gb315 ≠ gb279)); have n16_ := Aside0.mk ((by rw [hg]; exact Nat.ne_of_lt (blk_lt (g := gb304) (o := .cells #[.slice Ao32 y301.length co32, .int .i64 0] 33 (0, 0)) (by (with_reducible repeat (first | refine blk_drewN ?_ _ | refine blk_drew ?_ | refine blk_alloc ?_ _)); exact BK304.out)) : gb304 ≠ gb315)); have n17_ := Aside0.mk ((by rw [hg]; exact Nat.ne_of_gt (blk_lt (g := gb304) (o := .cells #[.slice Ao32 y301.length co32, .int .i64 0] 33 (0, 0)) (by (with_reducible repeat (first | refine blk_drewN ?_ _ | refine blk_drew ?_ | refine blk_alloc ?_ _)); exact BK304.out)) : gb315 ≠ gb304)); clear HO_273002; clear HO_280002; clear HO303; clear HO309; clear HO312; clear BK272; clear BK279; clear BK304; clear HB; have HO_273002 := n0_; have HO_280002 := n1_; have HO303 := n2_; have HO309 := n3_; have HO312 := n4_; have BK272 := n5_; have BK279 := n6_; have BK304 := n7_; have HB := n8_; have BK315 := n9_; have GW315 := n10_; have GE315 := n11_; have NB272_315 := n12_; have NB315_272 := n13_; have NB279_315 := n14_; have NB315_279 := n15_; have NB304_315 := n16_; have NB315_304 := n17_; clear n0_ n1_ n2_ n3_ n4_ n5_ n6_ n7_ n8_ n9_ n10_ n11_ n12_ n13_ n14_ n15_ n16_ n17_; clear hb hbox hg) | ((with_reducible refine gate_dst (N := 16) rfl ?_); (try (refine gate_guard (by rfl) ?_; dsimp only)); refine box_event ?hg (N := 16) ?hd (cs := #[.slice none 0 0, .int .i64 0]) (t := 33) ?hr ?_; (case hd => rfl); (case hg => rfl); (case hr => first | (go_simp; done) | (go_simp; rfl)); intro gb316 hg w43 hbox hb; have n0_ := Aside0.mk (Kd.V_below (Kd.V_elderB (by (with_reducible repeat (first | apply Kd.V_alloc | apply Kd.V_drewN | apply Kd.V_drew)); exact HO_273002.out) gb316 (Nat.le_of_eq hg.symm)) hb); have n1_ := Aside0.mk (Kd.V_below (Kd.V_elderB (by (with_reducible repeat (first | apply Kd.V_alloc | apply Kd.V_drewN | apply Kd.V_drew)); exact HO_280002.out) gb316 (Nat.le_of_eq hg.symm)) hb); have n2_ := Aside0.mk (Kd.R_below (by (with_reducible repeat (first | apply Kd.R_alloc | apply Kd.R_drewN | apply Kd.R_drew)); exact HO303.out) hb); have n3_ := Aside0.mk (Kd.V_below (Kd.V_elderB (by (with_reducible repeat (first | apply Kd.V_alloc | apply Kd.V_drewN | apply Kd.V_drew)); exact HO309.out) gb316 (Nat.le_of_eq hg.symm)) hb); have n4_ := Aside0.mk (Kd.V_below (Kd.V_elderB (by (with_reducible repeat (first | apply Kd.V_alloc | apply Kd.V_drewN | apply Kd.V_drew)); exact HO312.out) gb316 (Nat.le_of_eq hg.symm)) hb); have n5_ := Aside0.mk (blk_below (g := gb272) (o := .cells #[.int .i64 t280, .int .u64 t281, .slice Ao20 t282.length co20] 27 (0, 0)) (by (with_reducible repeat (first | refine blk_drewN ?_ _ | refine blk_drew ?_ | refine blk_alloc ?_ _)); exact BK272.out) hb); have n6_ := Aside0.mk (blk_below (g := gb279) (o := .cells #[.int .i64 t290, .int .u64 t291, .slice Ao25 t292.length co25] 27 (0, 0)) (by (with_reducible repeat (first | refine blk_drewN ?_ _ | refine blk_drew ?_ | refine blk_alloc ?_ _)); exact BK279.out) hb); have n7_ := Aside0.mk (blk_below (g := gb304) (o := .cells #[.slice Ao32 y301.length co32, .int .i64 0] 33 (0, 0)) (by (with_reducible repeat (first | refine blk_drewN ?_ _ | refine blk_drew ?_ | refine blk_alloc ?_ _)); exact BK304.out) hb); have n8_ := Aside0.mk (blk_below (g := gb315) (o := .cells #[.int .i64 0, .int .u64 0, .slice none 0 0] 27 (0, 0)) (by (with_reducible repeat (first | refine blk_drewN ?_ _ | refine blk_drew ?_ | refine blk_alloc ?_ _)); exact BK315.out) hb); have n9_ := Aside0.mk (below_step (by repeat (first | (with_reducible first | exact HB.out | apply below_alloc | apply pw_below_drewN | apply below_drew1 | refine below_set ?_ GE272.out | refine below_set ?_ GE279.out | refine below_set ?_ GE304.out | refine below_set ?_ GE315.out) | exact HB.out)) hb); have n10_ := Aside0.mk (hbox); have n11_ := Aside0.mk ((by rw [hg]; exact (below_size (by repeat (first | (with_reducible first | exact HB.out | apply below_alloc | apply pw_below_drewN | apply below_drew1 | refine below_set ?_ GE272.out | refine below_set ?_ GE279.out | refine below_set ?_ GE304.out | refine below_set ?_ GE315.out) | exact HB.out))) : w.heap.size ≤ gb316)); have n12_ := Aside0.mk ((by rw [hg]; exact (below_size (by repeat (first | (with_reducible first | exact HB.out | apply below_alloc | apply pw_below_drewN | apply below_drew1 | refine below_set ?_ GE272.out | refine below_set ?_ GE279.out | refine below_set ?_ GE304.out | refine below_set ?_ GE315.out) | exact HB.out))) : w.heap.size ≤ gb316)); have n13_ := Aside0.mk ((by rw [hg]; exact Nat.ne_of_lt (blk_lt (g := gb272) (o := .cells #[.int .i64 t280, .int .u64 t281, .slice Ao20 t282.length co20] 27 (0, 0)) (by (with_reducible repeat (first | refine blk_drewN ?_ _ | refine blk_drew ?_ | refine blk_alloc ?_ _)); exact BK272.out)) : gb272 ≠ gb316)); have n14_ := Aside0.mk ((by rw [hg]; exact Nat.ne_of_gt (blk_lt (g := gb272) (o := .cells #[.int .i64 t280, .int .u64 t281, .slice Ao20 t282.length co20] 27 (0, 0)) (by (with_reducible repeat (first | refine blk_drewN ?_ _ | refine blk_drew ?_ | refine blk_alloc ?_ _)); exact BK272.out)) : gb316 ≠ gb272)); have n15_ := Aside0.mk ((by rw [hg]; exact Nat.ne_of_lt (blk_lt (g := gb279) (o := .cells #[.int .i64 t290, .int .u64 t291, .slice Ao25 t292.length co25] 27 (0, 0)) (by (with_reducible repeat (first | refine blk_drewN ?_ _ | refine blk_drew ?_ | refine blk_alloc ?_ _)); exact BK279.out)) : gb279 ≠ gb316)); have n16_ := Aside0.mk ((by rw [hg]; exact Nat.ne_of_gt (blk_lt (g := gb279) (o := .cells #[.int .i64 t290, .int .u64 t291, .slice Ao25 t292.length co25] 27 (0, 0)) (by (with_reducible repeat (first | refine blk_drewN ?_ _ | refine blk_drew ?_ | refine blk_alloc ?_ _)); exact BK279.out)) : gb316 ≠ gb279)); have n17_ := Aside0.mk ((by rw [hg]; exact Nat.ne_of_lt (blk_lt (g := gb304) (o := .cells #[.slice Ao32 y301.length co32, .int .i64 0] 33 (0, 0)) (by (with_reducible repeat (first | refine blk_drewN ?_ _ | refine blk_drew ?_ | refine blk_alloc ?_ _)); exact BK304.out)) : gb304 ≠ gb316)); have n18_ := Aside0.mk ((by rw [hg]; exact Nat.ne_of_gt (blk_lt (g := gb304) (o := .cells #[.slice Ao32 y301.length co32, .int .i64 0] 33 (0, 0)) (by (with_reducible repeat (first | refine blk_drewN ?_ _ | refine blk_drew ?_ | refine blk_alloc ?_ _)); exact BK304.out)) : gb316 ≠ gb304)); have n19_ := Aside0.mk ((by rw [hg]; exact Nat.ne_of_lt (blk_lt (g := gb315) (o := .cells #[.int .i64 0, .int .u64 0, .slice none 0 0] 27 (0, 0)) (by (with_reducible repeat (first | refine blk_drewN ?_ _ | refine blk_drew ?_ | refine blk_alloc ?_ _)); exact BK315.out)) : gb315 ≠ gb316)); have n20_ := Aside0.mk ((by rw [hg]; exact Nat.ne_of_gt (blk_lt (g := gb315) (o := .cells #[.int .i64 0, .int .u64 0, .slice none 0 0] 27 (0, 0)) (by (with_reducible repeat (first | refine blk_drewN ?_ _ | refine blk_drew ?_ | refine blk_alloc ?_ _)); exact BK315.out)) : gb316 ≠ gb315)); clear HO_273002; clear HO_280002; clear HO303; clear HO309; clear HO312; clear BK272; clear BK279; clear BK304; clear BK315; clear HB; have HO_273002 := n0_; have HO_280002 := n1_; have HO303 := n2_; have HO309 := n3_; have HO312 := n4_; have BK272 := n5_; have BK279 := n6_; have BK304 := n7_; have BK315 := n8_; have HB := n9_; have BK316 := n10_; have GW316 := n11_; have GE316 := n12_; have NB272_316 := n13_; have NB316_272 := n14_; have NB279_316 := n15_; have NB316_279 := n16_; have NB304_316 := n17_; have NB316_304 := n18_; have NB315_316 := n19_; have NB316_315 := n20_; clear n0_ n1_ n2_ n3_ n4_ n5_ n6_ n7_ n8_ n9_ n10_ n11_ n12_ n13_ n14_ n15_ n16_ n17_ n18_ n19_ n20_; clear hb hbox hg; have hnb44 := NB315_272.out; have hnc44 := NB272_315.out; have hnb45 := NB315_279.out; have hnc45 := NB279_315.out; have hnb46 := NB315_304.out; have hnc46 := NB304_315.out; have hnb47 := NB315_316.out; have hnc47 := NB316_315.out; have hcz48_0 : w43.cell? ⟨gb315, 0, none⟩ = some (.int .i64 0) := (blk_cell BK315.out 0).trans rfl; have hcz48_1 : w43.cell? ⟨gb315, 1, none⟩ = some (.int .u64 0) := (blk_cell BK315.out 1).trans rfl; have hcz48_2 : w43.cell? ⟨gb315, 2, none⟩ = some (.slice none 0 0) := (blk_cell BK315.out 2).trans rfl; have hfz48_0 := blk_frozen BK315.out 0; have hfz48_1 := blk_frozen BK315.out 1; have hfz48_2 := blk_frozen BK315.out 2; obtain ⟨Ao49, co49, eo49⟩ := Kd.V_slice HO309.out; subst eo49) | ((with_reducible refine gate_store (t := 27) (p := 15) rfl ?_); refine store_event (t := 27) (p := 15) (v := ?vo_w50) (w1 := (((w43.setCell ⟨gb315, 0, none⟩ (.int .i64 t305)).setCell ⟨gb315, 1, none⟩ (.int .u64 t306)).setCell ⟨gb315, 2, none⟩ (.slice Ao49 t307.length co49))) ?hg ?ho ?hn ?hr ?_; (case ho => rfl); (case hg => rfl); (case hn => rfl); (case hr => first | (go_simp; done) | (go_simp; rfl)); intro w50 hw; have n0_ : Aside0 (Kd.V Kd.string 9 w50 w.heap.size (fun k_ => some k_ ≠ (.slice Ao32 y301.length co32 : Value).ownBlock ∧ k_ ≠ gb272 ∧ k_ ≠ gb279 ∧ k_ ≠ gb304 ∧ k_ ≠ gb315 ∧ k_ ≠ gb316) (.slice Ao20 t282.length co20) t282) := ⟨(by rw [hw]; exact (by (with_reducible repeat (first | apply Kd.V_alloc | apply Kd.V_drewN | apply Kd.V_drew)); exact Kd.V_mono (Kd.V_far (p := ⟨gb315, 2, none⟩) (Kd.V_far (p := ⟨gb315, 1, none⟩) (Kd.V_far (p := ⟨gb315, 0, none⟩) (Kd.V_mono HO_273002.out (fun k_ hk => (⟨hk, hk.1.2⟩ : _ ∧ k_ ≠ gb315))) (fun _ hk => hk.2) (.int .i64 t305)) (fun _ hk => hk.2) (.int .u64 t306)) (fun _ hk => hk.2) (.slice Ao49 t307.length co49)) (fun _ hk => ⟨hk.1.1.1.1, ⟨hk.1.1.1.2.1, ⟨hk.1.1.1.2.2.1, ⟨hk.1.1.1.2.2.2, ⟨hk.1.1.2, hk.1.2⟩⟩⟩⟩⟩)))⟩; have n1_ : Aside0 (Kd.V Kd.string 9 w50 w.heap.size (fun k_ => some k_ ≠ (.slice Ao32 y301.length co32 : Value).ownBlock ∧ k_ ≠ gb272 ∧ k_ ≠ gb279 ∧ k_ ≠ gb304 ∧ k_ ≠ gb315 ∧ k_ ≠ gb316) (.slice Ao25 t292.length co25) t292) := ⟨(by rw [hw]; exact (by (with_reducible repeat (first | apply Kd.V_alloc | apply Kd.V_drewN | apply Kd.V_drew)); exact Kd.V_mono (Kd.V_far (p := ⟨gb315, 2, none⟩) (Kd.V_far (p := ⟨gb315, 1, none⟩) (Kd.V_far (p := ⟨gb315, 0, none⟩) (Kd.V_mono HO_280002.out (fun k_ hk => (⟨hk, hk.1.2⟩ : _ ∧ k_ ≠ gb315))) (fun _ hk => hk.2) (.int .i64 t305)) (fun _ hk => hk.2) (.int .u64 t306)) (fun _ hk => hk.2) (.slice Ao49 t307.length co49)) (fun _ hk => ⟨hk.1.1.1.1, ⟨hk.1.1.1.2.1, ⟨hk.1.1.1.2.2.1, ⟨hk.1.1.1.2.2.2, ⟨hk.1.1.2, hk.1.2⟩⟩⟩⟩⟩)))⟩; have n2_ : Aside0 (Kd.R (Kd.int .u64) 24 w50 w.heap.size (fun _ => True) (.slice Ao32 y301.length co32) y301) := ⟨(by rw [hw]; exact (by (with_reducible repeat (first | apply Kd.R_alloc | apply Kd.R_drewN | apply Kd.R_drew)); exact Kd.R_mono (Kd.R_far (p := ⟨gb315, 2, none⟩) (Kd.R_far (p := ⟨gb315, 1, none⟩) (Kd.R_far (p := ⟨gb315, 0, none⟩) (Kd.R_types HO303.out BK315.out (by decide)) (fun _ hk => hk.2) (.int .i64 t305)) (fun _ hk => hk.2) (.int .u64 t306)) (fun _ hk => hk.2) (.slice Ao49 t307.length co49)) (fun _ hk => trivial)))⟩; have n3_ : Aside0 (Kd.V Kd.string 9 w50 w.heap.size (fun k_ => k_ ≠ gb272 ∧ k_ ≠ gb279 ∧ k_ ≠ gb304 ∧ k_ ≠ gb315 ∧ k_ ≠ gb316) (.slice Ao49 t307.length co49) t307) := ⟨(by rw [hw]; exact (by (with_reducible repeat (first | apply Kd.V_alloc | apply Kd.V_drewN | apply Kd.V_drew)); exact Kd.V_mono (Kd.V_far (p := ⟨gb315, 2, none⟩) (Kd.V_far (p := ⟨gb315, 1, none⟩) (Kd.V_far (p := ⟨gb315, 0, none⟩) (Kd.V_mono HO309.out (fun k_ hk => (⟨hk, hk.1.2⟩ : _ ∧ k_ ≠ gb315))) (fun _ hk => hk.2) (.int .i64 t305)) (fun _ hk => hk.2) (.int .u64 t306)) (fun _ hk => hk.2) (.slice Ao49 t307.length co49)) (fun _ hk => ⟨hk.1.1.1.1, ⟨hk.1.1.1.2.1, ⟨hk.1.1.1.2.2, ⟨hk.1.1.2, hk.1.2⟩⟩⟩⟩)))⟩; have n4_ : Aside0 (Kd.V (Kd.int .u64) 24 w50 w.heap.size (fun k_ => k_ ≠ gb272 ∧ k_ ≠ gb279 ∧ k_ ≠ gb304 ∧ k_ ≠ gb315 ∧ k_ ≠ gb316) v311 t310) := ⟨(by rw [hw]; exact (by (with_reducible repeat (first | apply Kd.V_alloc | apply Kd.V_drewN | apply Kd.V_drew)); exact Kd.V_mono (Kd.V_far (p := ⟨gb315, 2, none⟩) (Kd.V_far (p := ⟨gb315, 1, none⟩) (Kd.V_far (p := ⟨gb315, 0, none⟩) (Kd.V_mono HO312.out (fun k_ hk => (⟨hk, hk.1.2⟩ : _ ∧ k_ ≠ gb315))) (fun _ hk => hk.2) (.int .i64 t305)) (fun _ hk => hk.2) (.int .u64 t306)) (fun _ hk => hk.2) (.slice Ao49 t307.length co49)) (fun _ hk => ⟨hk.1.1.1.1, ⟨hk.1.1.1.2.1, ⟨hk.1.1.1.2.2, ⟨hk.1.1.2, hk.1.2⟩⟩⟩⟩)))⟩; have n5_ : Aside0 (w50.heap[gb272]? = some (.cells #[.int .i64 t280, .int .u64 t281, .slice Ao20 t282.length co20] 27 (0, 0))) := ⟨(by rw [hw]; exact (by (with_reducible repeat (first | refine blk_drewN ?_ _ | refine blk_drew ?_ | refine blk_alloc ?_ _)); refine blk_far ?_ NB272_315.out _; (with_reducible repeat (first | refine blk_drewN ?_ _ | refine blk_drew ?_ | refine blk_alloc ?_ _)); refine blk_far ?_ NB272_315.out _; (with_reducible repeat (first | refine blk_drewN ?_ _ | refine blk_drew ?_ | refine blk_alloc ?_ _)); refine blk_far ?_ NB272_315.out _; (with_reducible repeat (first | refine blk_drewN ?_ _ | refine blk_drew ?_ | refine blk_alloc ?_ _)); exact BK272.out))⟩; have n6_ : Aside0 (w50.heap[gb279]? = some (.cells #[.int .i64 t290, .int .u64 t291, .slice Ao25 t292.length co25] 27 (0, 0))) := ⟨(by rw [hw]; exact (by (with_reducible repeat (first | refine blk_drewN ?_ _ | refine blk_drew ?_ | refine blk_alloc ?_ _)); refine blk_far ?_ NB279_315.out _; (with_reducible repeat (first | refine blk_drewN ?_ _ | refine blk_drew ?_ | refine blk_alloc ?_ _)); refine blk_far ?_ NB279_315.out _; (with_reducible repeat (first | refine blk_drewN ?_ _ | refine blk_drew ?_ | refine blk_alloc ?_ _)); refine blk_far ?_ NB279_315.out _; (with_reducible repeat (first | refine blk_drewN ?_ _ | refine blk_drew ?_ | refine blk_alloc ?_ _)); exact BK279.out))⟩; have n7_ : Aside0 (w50.heap[gb304]? = some (.cells #[.slice Ao32 y301.length co32, .int .i64 0] 33 (0, 0))) := ⟨(by rw [hw]; exact (by (with_reducible repeat (first | refine blk_drewN ?_ _ | refine blk_drew ?_ | refine blk_alloc ?_ _)); refine blk_far ?_ NB304_315.out _; (with_reducible repeat (first | refine blk_drewN ?_ _ | refine blk_drew ?_ | refine blk_alloc ?_ _)); refine blk_far ?_ NB304_315.out _; (with_reducible repeat (first | refine blk_drewN ?_ _ | refine blk_drew ?_ | refine blk_alloc ?_ _)); refine blk_far ?_ NB304_315.out _; (with_reducible repeat (first | refine blk_drewN ?_ _ | refine blk_drew ?_ | refine blk_alloc ?_ _)); exact BK304.out))⟩; have n8_ : Aside0 (w50.heap[gb315]? = some (.cells #[.int .i64 t305, .int .u64 t306, .slice Ao49 t307.length co49] 27 (0, 0))) := ⟨(by rw [hw]; exact (by (with_reducible repeat (first | refine blk_drewN ?_ _ | refine blk_drew ?_ | refine blk_alloc ?_ _)); refine blk_put (cs := #[.int .i64 t305, .int .u64 t306, .slice none 0 0]) ?_ 2 _ rfl; (with_reducible repeat (first | refine blk_drewN ?_ _ | refine blk_drew ?_ | refine blk_alloc ?_ _)); refine blk_put (cs := #[.int .i64 t305, .int .u64 0, .slice none 0 0]) ?_ 1 _ rfl; (with_reducible repeat (first | refine blk_drewN ?_ _ | refine blk_drew ?_ | refine blk_alloc ?_ _)); refine blk_put (cs := #[.int .i64 0, .int .u64 0, .slice none 0 0]) ?_ 0 _ rfl; (with_reducible repeat (first | refine blk_drewN ?_ _ | refine blk_drew ?_ | refine blk_alloc ?_ _)); exact BK315.out))⟩; have n9_ : Aside0 (w50.heap[gb316]? = some (.cells #[.slice none 0 0, .int .i64 0] 33 (0, 0))) := ⟨(by rw [hw]; exact (by (with_reducible repeat (first | refine blk_drewN ?_ _ | refine blk_drew ?_ | refine blk_alloc ?_ _)); refine blk_far ?_ NB316_315.out _; (with_reducible repeat (first | refine blk_drewN ?_ _ | refine blk_drew ?_ | refine blk_alloc ?_ _)); refine blk_far ?_ NB316_315.out _; (with_reducible repeat (first | refine blk_drewN ?_ _ | refine blk_drew ?_ | refine blk_alloc ?_ _)); refine blk_far ?_ NB316_315.out _; (with_reducible repeat (first | refine blk_drewN ?_ _ | refine blk_drew ?_ | refine blk_alloc ?_ _)); exact BK316.out))⟩; have n10_ : Aside0 (Below w.heap.size w w50) := ⟨(by rw [hw]; exact (by repeat (first | (with_reducible first | exact HB.out | apply below_alloc | apply pw_below_drewN | apply below_drew1 | refine below_set ?_ GE272.out | refine below_set ?_ GE279.out | refine below_set ?_ GE304.out | refine below_set ?_ GE315.out | refine below_set ?_ GE316.out) | exact HB.out)))⟩; clear hw; clear HO_273002; clear HO_280002; clear HO303; clear HO309; clear HO312; clear BK272; clear BK279; clear BK304; clear BK315; clear BK316; clear HB; have HO_273002 := n0_; have HO_280002 := n1_; have HO303 := n2_; have HO309 := n3_; have HO312 := n4_; have BK272 := n5_; have BK279 := n6_; have BK304 := n7_; have BK315 := n8_; have BK316 := n9_; have HB := n10_; clear n0_ n1_ n2_ n3_ n4_ n5_ n6_ n7_ n8_ n9_ n10_; obtain ⟨Ao51, co51, eo51⟩ := Kd.V_slice HO312.out; subst eo51; have hnb52 := NB316_272.out; have hnc52 := NB272_316.out; have hnb53 := NB316_279.out; have hnc53 := NB279_316.out; have hnb54 := NB316_304.out; have hnc54 := NB304_316.out; have hcz55_0 : w50.cell? ⟨gb316, 0, none⟩ = some (.slice none 0 0) := (blk_cell BK316.out 0).trans rfl; have hcz55_1 : w50.cell? ⟨gb316, 1, none⟩ = some (.int .i64 0) := (blk_cell BK316.out 1).trans rfl; have hfz55_0 := blk_frozen BK316.out 0; have hfz55_1 := blk_frozen BK316.out 1) | ((with_reducible refine gate_store (t := 33) (p := 16) rfl ?_); refine store_event (t := 33) (p := 16) (v := ?vo_w56) (w1 := ((w50.setCell ⟨gb316, 0, none⟩ (.slice Ao51 t310.length co51)).setCell ⟨gb316, 1, none⟩ (.int .i64 t313))) ?hg ?ho ?hn ?hr ?_; (case ho => rfl); (case hg => rfl); (case hn => rfl); (case hr => first | (go_simp; done) | (go_simp; rfl)); intro w56 hw; have n0_ : Aside0 (Kd.V Kd.string 9 w56 w.heap.size (fun k_ => some k_ ≠ (.slice Ao32 y301.length co32 : Value).ownBlock ∧ k_ ≠ gb272 ∧ k_ ≠ gb279 ∧ k_ ≠ gb304 ∧ k_ ≠ gb315 ∧ k_ ≠ gb316) (.slice Ao20 t282.length co20) t282) := ⟨(by rw [hw]; exact (by (with_reducible repeat (first | apply Kd.V_alloc | apply Kd.V_drewN | apply Kd.V_drew)); exact Kd.V_mono (Kd.V_far (p := ⟨gb316, 1, none⟩) (Kd.V_far (p := ⟨gb316, 0, none⟩) (Kd.V_mono HO_273002.out (fun k_ hk => (⟨hk, hk.2.2.2.2.2⟩ : _ ∧ k_ ≠ gb316))) (fun _ hk => hk.2) (.slice Ao51 t310.length co51)) (fun _ hk => hk.2) (.int .i64 t313)) (fun _ hk => ⟨hk.1.1, ⟨hk.1.2.1, ⟨hk.1.2.2.1, ⟨hk.1.2.2.2.1, ⟨hk.1.2.2.2.2.1, hk.1.2.2.2.2.2⟩⟩⟩⟩⟩)))⟩; have n1_ : Aside0 (Kd.V Kd.string 9 w56 w.heap.size (fun k_ => some k_ ≠ (.slice Ao32 y301.length co32 : Value).ownBlock ∧ k_ ≠ gb272 ∧ k_ ≠ gb279 ∧ k_ ≠ gb304 ∧ k_ ≠ gb315 ∧ k_ ≠ gb316) (.slice Ao25 t292.length co25) t292) := ⟨(by rw [hw]; exact (by (with_reducible repeat (first | apply Kd.V_alloc | apply Kd.V_drewN | apply Kd.V_drew)); exact Kd.V_mono (Kd.V_far (p := ⟨gb316, 1, none⟩) (Kd.V_far (p := ⟨gb316, 0, none⟩) (Kd.V_mono HO_280002.out (fun k_ hk => (⟨hk, hk.2.2.2.2.2⟩ : _ ∧ k_ ≠ gb316))) (fun _ hk => hk.2) (.slice Ao51 t310.length co51)) (fun _ hk => hk.2) (.int .i64 t313)) (fun _ hk => ⟨hk.1.1, ⟨hk.1.2.1, ⟨hk.1.2.2.1, ⟨hk.1.2.2.2.1, ⟨hk.1.2.2.2.2.1, hk.1.2.2.2.2.2⟩⟩⟩⟩⟩)))⟩; have n2_ : Aside0 (Kd.R (Kd.int .u64) 24 w56 w.heap.size (fun _ => True) (.slice Ao32 y301.length co32) y301) := ⟨(by rw [hw]; exact (by (with_reducible repeat (first | apply Kd.R_alloc | apply Kd.R_drewN | apply Kd.R_drew)); exact Kd.R_mono (Kd.R_far (p := ⟨gb316, 1, none⟩) (Kd.R_far (p := ⟨gb316, 0, none⟩) (Kd.R_types HO303.out BK316.out (by decide)) (fun _ hk => hk.2) (.slice Ao51 t310.length co51)) (fun _ hk => hk.2) (.int .i64 t313)) (fun _ hk => trivial)))⟩; have n3_ : Aside0 (Kd.V Kd.string 9 w56 w.heap.size (fun k_ => k_ ≠ gb272 ∧ k_ ≠ gb279 ∧ k_ ≠ gb304 ∧ k_ ≠ gb315 ∧ k_ ≠ gb316) (.slice Ao49 t307.length co49) t307) := ⟨(by rw [hw]; exact (by (with_reducible repeat (first | apply Kd.V_alloc | apply Kd.V_drewN | apply Kd.V_drew)); exact Kd.V_mono (Kd.V_far (p := ⟨gb316, 1, none⟩) (Kd.V_far (p := ⟨gb316, 0, none⟩) (Kd.V_mono HO309.out (fun k_ hk => (⟨hk, hk.2.2.2.2⟩ : _ ∧ k_ ≠ gb316))) (fun _ hk => hk.2) (.slice Ao51 t310.length co51)) (fun _ hk => hk.2) (.int .i64 t313)) (fun _ hk => ⟨hk.1.1, ⟨hk.1.2.1, ⟨hk.1.2.2.1, ⟨hk.1.2.2.2.1, hk.1.2.2.2.2⟩⟩⟩⟩)))⟩; have n4_ : Aside0 (Kd.V (Kd.int .u64) 24 w56 w.heap.size (fun k_ => k_ ≠ gb272 ∧ k_ ≠ gb279 ∧ k_ ≠ gb304 ∧ k_ ≠ gb315 ∧ k_ ≠ gb316) (.slice Ao51 t310.length co51) t310) := ⟨(by rw [hw]; exact (by (with_reducible repeat (first | apply Kd.V_alloc | apply Kd.V_drewN | apply Kd.V_drew)); exact Kd.V_mono (Kd.V_far (p := ⟨gb316, 1, none⟩) (Kd.V_far (p := ⟨gb316, 0, none⟩) (Kd.V_mono HO312.out (fun k_ hk => (⟨hk, hk.2.2.2.2⟩ : _ ∧ k_ ≠ gb316))) (fun _ hk => hk.2) (.slice Ao51 t310.length co51)) (fun _ hk => hk.2) (.int .i64 t313)) (fun _ hk => ⟨hk.1.1, ⟨hk.1.2.1, ⟨hk.1.2.2.1, ⟨hk.1.2.2.2.1, hk.1.2.2.2.2⟩⟩⟩⟩)))⟩; have n5_ : Aside0 (w56.heap[gb272]? = some (.cells #[.int .i64 t280, .int .u64 t281, .slice Ao20 t282.length co20] 27 (0, 0))) := ⟨(by rw [hw]; exact (by (with_reducible repeat (first | refine blk_drewN ?_ _ | refine blk_drew ?_ | refine blk_alloc ?_ _)); refine blk_far ?_ NB272_316.out _; (with_reducible repeat (first | refine blk_drewN ?_ _ | refine blk_drew ?_ | refine blk_alloc ?_ _)); refine blk_far ?_ NB272_316.out _; (with_reducible repeat (first | refine blk_drewN ?_ _ | refine blk_drew ?_ | refine blk_alloc ?_ _)); exact BK272.out))⟩; have n6_ : Aside0 (w56.heap[gb279]? = some (.cells #[.int .i64 t290, .int .u64 t291, .slice Ao25 t292.length co25] 27 (0, 0))) := ⟨(by rw [hw]; exact (by (with_reducible repeat (first | refine blk_drewN ?_ _ | refine blk_drew ?_ | refine blk_alloc ?_ _)); refine blk_far ?_ NB279_316.out _; (with_reducible repeat (first | refine blk_drewN ?_ _ | refine blk_drew ?_ | refine blk_alloc ?_ _)); refine blk_far ?_ NB279_316.out _; (with_reducible repeat (first | refine blk_drewN ?_ _ | refine blk_drew ?_ | refine blk_alloc ?_ _)); exact BK279.out))⟩; have n7_ : Aside0 (w56.heap[gb304]? = some (.cells #[.slice Ao32 y301.length co32, .int .i64 0] 33 (0, 0))) := ⟨(by rw [hw]; exact (by (with_reducible repeat (first | refine blk_drewN ?_ _ | refine blk_drew ?_ | refine blk_alloc ?_ _)); refine blk_far ?_ NB304_316.out _; (with_reducible repeat (first | refine blk_drewN ?_ _ | refine blk_drew ?_ | refine blk_alloc ?_ _)); refine blk_far ?_ NB304_316.out _; (with_reducible repeat (first | refine blk_drewN ?_ _ | refine blk_drew ?_ | refine blk_alloc ?_ _)); exact BK304.out))⟩; have n8_ : Aside0 (w56.heap[gb315]? = some (.cells #[.int .i64 t305, .int .u64 t306, .slice Ao49 t307.length co49] 27 (0, 0))) := ⟨(by rw [hw]; exact (by (with_reducible repeat (first | refine blk_drewN ?_ _ | refine blk_drew ?_ | refine blk_alloc ?_ _)); refine blk_far ?_ NB315_316.out _; (with_reducible repeat (first | refine blk_drewN ?_ _ | refine blk_drew ?_ | refine blk_alloc ?_ _)); refine blk_far ?_ NB315_316.out _; (with_reducible repeat (first | refine blk_drewN ?_ _ | refine blk_drew ?_ | refine blk_alloc ?_ _)); exact BK315.out))⟩; have n9_ : Aside0 (w56.heap[gb316]? = some (.cells #[.slice Ao51 t310.length co51, .int .i64 t313] 33 (0, 0))) := ⟨(by rw [hw]; exact (by (with_reducible repeat (first | refine blk_drewN ?_ _ | refine blk_drew ?_ | refine blk_alloc ?_ _)); refine blk_put (cs := #[.slice Ao51 t310.length co51, .int .i64 0]) ?_ 1 _ rfl; (with_reducible repeat (first | refine blk_drewN ?_ _ | refine blk_drew ?_ | refine blk_alloc ?_ _)); refine blk_put (cs := #[.slice none 0 0, .int .i64 0]) ?_ 0 _ rfl; (with_reducible repeat (first | refine blk_drewN ?_ _ | refine blk_drew ?_ | refine blk_alloc ?_ _)); exact BK316.out))⟩; have n10_ : Aside0 (Below w.heap.size w w56) := ⟨(by rw [hw]; exact (by repeat (first | (with_reducible first | exact HB.out | apply below_alloc | apply pw_below_drewN | apply below_drew1 | refine below_set ?_ GE272.out | refine below_set ?_ GE279.out | refine below_set ?_ GE304.out | refine below_set ?_ GE315.out | refine below_set ?_ GE316.out) | exact HB.out)))⟩; clear hw; clear HO_273002; clear HO_280002; clear HO303; clear HO309; clear HO312; clear BK272; clear BK279; clear BK304; clear BK315; clear BK316; clear HB; have HO_273002 := n0_; have HO_280002 := n1_; have HO303 := n2_; have HO309 := n3_; have HO312 := n4_; have BK272 := n5_; have BK279 := n6_; have BK304 := n7_; have BK315 := n8_; have BK316 := n9_; have HB := n10_; clear n0_ n1_ n2_ n3_ n4_ n5_ n6_ n7_ n8_ n9_ n10_; have hcz57_0 : w56.cell? ⟨gb279, 0, none⟩ = some (.int .i64 t290) := (blk_cell BK279.out 0).trans rfl; have hcz57_1 : w56.cell? ⟨gb279, 1, none⟩ = some (.int .u64 t291) := (blk_cell BK279.out 1).trans rfl; have hcz57_2 : w56.cell? ⟨gb279, 2, none⟩ = some (.slice Ao25 t292.length co25) := (blk_cell BK279.out 2).trans rfl; have hfz57_0 := blk_frozen BK279.out 0; have hfz57_1 := blk_frozen BK279.out 1; have hfz57_2 := blk_frozen BK279.out 2; have hcz58_0 : w56.cell? ⟨gb272, 0, none⟩ = some (.int .i64 t280) := (blk_cell BK272.out 0).trans rfl; have hcz58_1 : w56.cell? ⟨gb272, 1, none⟩ = some (.int .u64 t281) := (blk_cell BK272.out 1).trans rfl; have hcz58_2 : w56.cell? ⟨gb272, 2, none⟩ = some (.slice Ao20 t282.length co20) := (blk_cell BK272.out 2).trans rfl; have hfz58_0 := blk_frozen BK272.out 0; have hfz58_1 := blk_frozen BK272.out 1; have hfz58_2 := blk_frozen BK272.out 2; have hcz59_0 : w56.cell? ⟨gb304, 0, none⟩ = some (.slice Ao32 y301.length co32) := (blk_cell BK304.out 0).trans rfl; have hcz59_1 : w56.cell? ⟨gb304, 1, none⟩ = some (.int .i64 0) := (blk_cell BK304.out 1).trans rfl; have hfz59_0 := blk_frozen BK304.out 0; have hfz59_1 := blk_frozen BK304.out 1) | ((with_reducible refine gate_callee (f := 18) rfl ?_); refine goesL_ (some 74) rfl rfl Try.func18 (by kernel_rfl) rfl #[.agg #[.int .i64 t290, .int .u64 t291, .slice Ao25 t292.length co25], .agg #[.int .i64 t280, .int .u64 t281, .slice Ao20 t282.length co20], .agg #[.slice Ao32 y301.length co32, .int .i64 0]] rfl (by (try simp only [List.map_toArray, List.map_cons, List.map_nil]); first | done | rfl | (simp only [List.length_drop, List.length_take]; rfl)) ?_; (with_reducible refine (slots_Merge.calls k1 t290 t291 (fun k_ => (some k_ ≠ (.slice Ao32 y301.length co32 : Value).ownBlock ∧ (k_ ≠ gb272 ∧ (k_ ≠ gb279 ∧ (k_ ≠ gb304 ∧ (k_ ≠ gb315 ∧ k_ ≠ gb316)))))) _ _ t292 t280 t281 (fun k_ => (some k_ ≠ (.slice Ao32 y301.length co32 : Value).ownBlock ∧ (k_ ≠ gb272 ∧ (k_ ≠ gb279 ∧ (k_ ≠ gb304 ∧ (k_ ≠ gb315 ∧ k_ ≠ gb316)))))) _ _ t282 (fun k_ => some k_ = (.slice Ao32 y301.length co32 : Value).ownBlock) _ _ y301 0 t317 t318 t319 t322 t325 t326 _ ?side1 ?side2 ?side3 A28.out).mono ?_); (case side1 => exact HO_280002.out); (case side2 => exact HO_273002.out); (case side3 => exact Kd.R_V (Kd.R_tight rfl (Kd.R_types (Kd.R_types (Kd.R_types (Kd.R_types (Kd.R_types (HO303.out) BK272.out (by decide)) BK279.out (by decide)) BK304.out (by decide)) BK315.out (by decide)) BK316.out (by decide)))); rintro e w60 ⟨v320, v323, rfl, ho0, ho1, hb⟩; refine ⟨_, rfl, ?_⟩; have n0_ := Aside0.mk (Kd.V_below (by (with_reducible repeat (first | apply Kd.V_alloc | apply Kd.V_drewN | apply Kd.V_drew)); exact HO_273002.out) hb); have n1_ := Aside0.mk (Kd.V_below (by (with_reducible repeat (first | apply Kd.V_alloc | apply Kd.V_drewN | apply Kd.V_drew)); exact HO_280002.out) hb); have n2_ := Aside0.mk (Kd.R_below (by (with_reducible repeat (first | apply Kd.R_alloc | apply Kd.R_drewN | apply Kd.R_drew)); exact HO303.out) hb); have n3_ := Aside0.mk (Kd.V_below (by (with_reducible repeat (first | apply Kd.V_alloc | apply Kd.V_drewN | apply Kd.V_drew)); exact HO309.out) hb); have n4_ := Aside0.mk (Kd.V_below (by (with_reducible repeat (first | apply Kd.V_alloc | apply Kd.V_drewN | apply Kd.V_drew)); exact HO312.out) hb); have n5_ := Aside0.mk (Kd.V_lower (Kd.V_mono (ok' := fun k_ => k_ ≠ gb272 ∧ k_ ≠ gb279 ∧ k_ ≠ gb304 ∧ k_ ≠ gb315 ∧ k_ ≠ gb316) ho0 (fun k_ hk_ => ⟨Or.elim hk_ (fun hs_ => Or.elim hs_ (fun hs_ => hs_.2.1) (fun hs_ => Or.elim hs_ (fun hs_ => hs_.2.1) (fun hs_ => ((Kd.R_types (Kd.R_types (Kd.R_types (Kd.R_types (Kd.R_types (HO303.out) BK272.out (by decide)) BK279.out (by decide)) BK304.out (by decide)) BK315.out (by decide)) BK316.out (by decide)).1 k_ hs_.symm).1.1.1.1.2))) (fun hn_ => (Kd.freshB (g := gb272) (o := .cells #[.int .i64 t280, .int .u64 t281, .slice Ao20 t282.length co20] 27 (0, 0)) (by (with_reducible repeat (first | refine blk_drewN ?_ _ | refine blk_drew ?_ | refine blk_alloc ?_ _)); exact BK272.out) k_ hn_)), Or.elim hk_ (fun hs_ => Or.elim hs_ (fun hs_ => hs_.2.2.1) (fun hs_ => Or.elim hs_ (fun hs_ => hs_.2.2.1) (fun hs_ => ((Kd.R_types (Kd.R_types (Kd.R_types (Kd.R_types (Kd.R_types (HO303.out) BK272.out (by decide)) BK279.out (by decide)) BK304.out (by decide)) BK315.out (by decide)) BK316.out (by decide)).1 k_ hs_.symm).1.1.1.2))) (fun hn_ => (Kd.freshB (g := gb279) (o := .cells #[.int .i64 t290, .int .u64 t291, .slice Ao25 t292.length co25] 27 (0, 0)) (by (with_reducible repeat (first | refine blk_drewN ?_ _ | refine blk_drew ?_ | refine blk_alloc ?_ _)); exact BK279.out) k_ hn_)), Or.elim hk_ (fun hs_ => Or.elim hs_ (fun hs_ => hs_.2.2.2.1) (fun hs_ => Or.elim hs_ (fun hs_ => hs_.2.2.2.1) (fun hs_ => ((Kd.R_types (Kd.R_types (Kd.R_types (Kd.R_types (Kd.R_types (HO303.out) BK272.out (by decide)) BK279.out (by decide)) BK304.out (by decide)) BK315.out (by decide)) BK316.out (by decide)).1 k_ hs_.symm).1.1.2))) (fun hn_ => (Kd.freshB (g := gb304) (o := .cells #[.slice Ao32 y301.length co32, .int .i64 0] 33 (0, 0)) (by (with_reducible repeat (first | refine blk_drewN ?_ _ | refine blk_drew ?_ | refine blk_alloc ?_ _)); exact BK304.out) k_ hn_)), Or.elim hk_ (fun hs_ => Or.elim hs_ (fun hs_ => hs_.2.2.2.2.1) (fun hs_ => Or.elim hs_ (fun hs_ => hs_.2.2.2.2.1) (fun hs_ => ((Kd.R_types (Kd.R_types (Kd.R_types (Kd.R_types (Kd.R_types (HO303.out) BK272.out (by decide)) BK279.out (by decide)) BK304.out (by decide)) BK315.out (by decide)) BK316.out (by decide)).1 k_ hs_.symm).1.2))) (fun hn_ => (Kd.freshB (g := gb315) (o := .cells #[.int .i64 t305, .int .u64 t306, .slice Ao49 t307.length co49] 27 (0, 0)) (by (with_reducible repeat (first | refine blk_drewN ?_ _ | refine blk_drew ?_ | refine blk_alloc ?_ _)); exact BK315.out) k_ hn_)), Or.elim hk_ (fun hs_ => Or.elim hs_ (fun hs_ => hs_.2.2.2.2.2) (fun hs_ => Or.elim hs_ (fun hs_ => hs_.2.2.2.2.2) (fun hs_ => ((Kd.R_types (Kd.R_types (Kd.R_types (Kd.R_types (Kd.R_types (HO303.out) BK272.out (by decide)) BK279.out (by decide)) BK304.out (by decide)) BK315.out (by decide)) BK316.out (by decide)).1 k_ hs_.symm).2))) (fun hn_ => (Kd.freshB (g := gb316) (o := .cells #[.slice Ao51 t310.length co51, .int .i64 t313] 33 (0, 0)) (by (with_reducible repeat (first | refine blk_drewN ?_ _ | refine blk_drew ?_ | refine blk_alloc ?_ _)); exact BK316.out) k_ hn_))⟩)) (below_size (by repeat (first | (with_reducible first | exact HB.out | apply below_alloc | apply pw_below_drewN | apply below_drew1 | refine below_set ?_ GE272.out | refine below_set ?_ GE279.out | refine below_set ?_ GE304.out | refine below_set ?_ GE315.out | refine below_set ?_ GE316.out) | exact HB.out)))); have n6_ := Aside0.mk (Kd.V_lower (Kd.V_mono (ok' := fun k_ => k_ ≠ gb272 ∧ k_ ≠ gb279 ∧ k_ ≠ gb304 ∧ k_ ≠ gb315 ∧ k_ ≠ gb316) ho1 (fun k_ hk_ => ⟨Or.elim hk_ (fun hs_ => Or.elim hs_ (fun hs_ => hs_.2.1) (fun hs_ => Or.elim hs_ (fun hs_ => hs_.2.1) (fun hs_ => ((Kd.R_types (Kd.R_types (Kd.R_types (Kd.R_types (Kd.R_types (HO303.out) BK272.out (by decide)) BK279.out (by decide)) BK304.out (by decide)) BK315.out (by decide)) BK316.out (by decide)).1 k_ hs_.symm).1.1.1.1.2))) (fun hn_ => (Kd.freshB (g := gb272) (o := .cells #[.int .i64 t280, .int .u64 t281, .slice Ao20 t282.length co20] 27 (0, 0)) (by (with_reducible repeat (first | refine blk_drewN ?_ _ | refine blk_drew ?_ | refine blk_alloc ?_ _)); exact BK272.out) k_ hn_)), Or.elim hk_ (fun hs_ => Or.elim hs_ (fun hs_ => hs_.2.2.1) (fun hs_ => Or.elim hs_ (fun hs_ => hs_.2.2.1) (fun hs_ => ((Kd.R_types (Kd.R_types (Kd.R_types (Kd.R_types (Kd.R_types (HO303.out) BK272.out (by decide)) BK279.out (by decide)) BK304.out (by decide)) BK315.out (by decide)) BK316.out (by decide)).1 k_ hs_.symm).1.1.1.2))) (fun hn_ => (Kd.freshB (g := gb279) (o := .cells #[.int .i64 t290, .int .u64 t291, .slice Ao25 t292.length co25] 27 (0, 0)) (by (with_reducible repeat (first | refine blk_drewN ?_ _ | refine blk_drew ?_ | refine blk_alloc ?_ _)); exact BK279.out) k_ hn_)), Or.elim hk_ (fun hs_ => Or.elim hs_ (fun hs_ => hs_.2.2.2.1) (fun hs_ => Or.elim hs_ (fun hs_ => hs_.2.2.2.1) (fun hs_ => ((Kd.R_types (Kd.R_types (Kd.R_types (Kd.R_types (Kd.R_types (HO303.out) BK272.out (by decide)) BK279.out (by decide)) BK304.out (by decide)) BK315.out (by decide)) BK316.out (by decide)).1 k_ hs_.symm).1.1.2))) (fun hn_ => (Kd.freshB (g := gb304) (o := .cells #[.slice Ao32 y301.length co32, .int .i64 0] 33 (0, 0)) (by (with_reducible repeat (first | refine blk_drewN ?_ _ | refine blk_drew ?_ | refine blk_alloc ?_ _)); exact BK304.out) k_ hn_)), Or.elim hk_ (fun hs_ => Or.elim hs_ (fun hs_ => hs_.2.2.2.2.1) (fun hs_ => Or.elim hs_ (fun hs_ => hs_.2.2.2.2.1) (fun hs_ => ((Kd.R_types (Kd.R_types (Kd.R_types (Kd.R_types (Kd.R_types (HO303.out) BK272.out (by decide)) BK279.out (by decide)) BK304.out (by decide)) BK315.out (by decide)) BK316.out (by decide)).1 k_ hs_.symm).1.2))) (fun hn_ => (Kd.freshB (g := gb315) (o := .cells #[.int .i64 t305, .int .u64 t306, .slice Ao49 t307.length co49] 27 (0, 0)) (by (with_reducible repeat (first | refine blk_drewN ?_ _ | refine blk_drew ?_ | refine blk_alloc ?_ _)); exact BK315.out) k_ hn_)), Or.elim hk_ (fun hs_ => Or.elim hs_ (fun hs_ => hs_.2.2.2.2.2) (fun hs_ => Or.elim hs_ (fun hs_ => hs_.2.2.2.2.2) (fun hs_ => ((Kd.R_types (Kd.R_types (Kd.R_types (Kd.R_types (Kd.R_types (HO303.out) BK272.out (by decide)) BK279.out (by decide)) BK304.out (by decide)) BK315.out (by decide)) BK316.out (by decide)).1 k_ hs_.symm).2))) (fun hn_ => (Kd.freshB (g := gb316) (o := .cells #[.slice Ao51 t310.length co51, .int .i64 t313] 33 (0, 0)) (by (with_reducible repeat (first | refine blk_drewN ?_ _ | refine blk_drew ?_ | refine blk_alloc ?_ _)); exact BK316.out) k_ hn_))⟩)) (below_size (by repeat (first | (with_reducible first | exact HB.out | apply below_alloc | apply pw_below_drewN | apply below_drew1 | refine below_set ?_ GE272.out | refine below_set ?_ GE279.out | refine below_set ?_ GE304.out | refine below_set ?_ GE315.out | refine below_set ?_ GE316.out) | exact HB.out)))); have n7_ := Aside0.mk (blk_below (g := gb272) (o := .cells #[.int .i64 t280, .int .u64 t281, .slice Ao20 t282.length co20] 27 (0, 0)) (by (with_reducible repeat (first | refine blk_drewN ?_ _ | refine blk_drew ?_ | refine blk_alloc ?_ _)); exact BK272.out) hb); have n8_ := Aside0.mk (blk_below (g := gb279) (o := .cells #[.int .i64 t290, .int .u64 t291, .slice Ao25 t292.length co25] 27 (0, 0)) (by (with_reducible repeat (first | refine blk_drewN ?_ _ | refine blk_drew ?_ | refine blk_alloc ?_ _)); exact BK279.out) hb); have n9_ := Aside0.mk (blk_below (g := gb304) (o := .cells #[.slice Ao32 y301.length co32, .int .i64 0] 33 (0, 0)) (by (with_reducible repeat (first | refine blk_drewN ?_ _ | refine blk_drew ?_ | refine blk_alloc ?_ _)); exact BK304.out) hb); have n10_ := Aside0.mk (blk_below (g := gb315) (o := .cells #[.int .i64 t305, .int .u64 t306, .slice Ao49 t307.length co49] 27 (0, 0)) (by (with_reducible repeat (first | refine blk_drewN ?_ _ | refine blk_drew ?_ | refine blk_alloc ?_ _)); exact BK315.out) hb); have n11_ := Aside0.mk (blk_below (g := gb316) (o := .cells #[.slice Ao51 t310.length co51, .int .i64 t313] 33 (0, 0)) (by (with_reducible repeat (first | refine blk_drewN ?_ _ | refine blk_drew ?_ | refine blk_alloc ?_ _)); exact BK316.out) hb); have n12_ := Aside0.mk (below_step (by repeat (first | (with_reducible first | exact HB.out | apply below_alloc | apply pw_below_drewN | apply below_drew1 | refine below_set ?_ GE272.out | refine below_set ?_ GE279.out | refine below_set ?_ GE304.out | refine below_set ?_ GE315.out | refine below_set ?_ GE316.out) | exact HB.out)) hb); clear HO_273002; clear HO_280002; clear HO303; clear HO309; clear HO312; clear BK272; clear BK279; clear BK304; clear BK315; clear BK316; clear HB; have HO_273002 := n0_; have HO_280002 := n1_; have HO303 := n2_; have HO309 := n3_; have HO312 := n4_; have HO321 := n5_; have HO324 := n6_; have BK272 := n7_; have BK279 := n8_; have BK304 := n9_; have BK315 := n10_; have BK316 := n11_; have HB := n12_; clear n0_ n1_ n2_ n3_ n4_ n5_ n6_ n7_ n8_ n9_ n10_ n11_ n12_; (try clear hb); (try clear hb2); (try clear hk); (try clear hi); (try clear ho0); (try clear ho1)) | ((with_reducible refine gate_dst (N := 18) rfl ?_); (try (refine gate_guard (by rfl) ?_; dsimp only)); refine box_event ?hg (N := 18) ?hd (cs := #[.int .i64 0, .int .u64 0, .slice none 0 0]) (t := 27) ?hr ?_; (case hd => rfl); (case hg => rfl); (case hr => first | (go_simp; done) | (go_simp; rfl)); intro gb327 hg w61 hbox hb; have n0_ := Aside0.mk (Kd.V_below (Kd.V_elderB (by (with_reducible repeat (first | apply Kd.V_alloc | apply Kd.V_drewN | apply Kd.V_drew)); exact HO_273002.out) gb327 (Nat.le_of_eq hg.symm)) hb); have n1_ := Aside0.mk (Kd.V_below (Kd.V_elderB (by (with_reducible repeat (first | apply Kd.V_alloc | apply Kd.V_drewN | apply Kd.V_drew)); exact HO_280002.out) gb327 (Nat.le_of_eq hg.symm)) hb); have n2_ := Aside0.mk (Kd.R_below (by (with_reducible repeat (first | apply Kd.R_alloc | apply Kd.R_drewN | apply Kd.R_drew)); exact HO303.out) hb); have n3_ := Aside0.mk (Kd.V_below (Kd.V_elderB (by (with_reducible repeat (first | apply Kd.V_alloc | apply Kd.V_drewN | apply Kd.V_drew)); exact HO309.out) gb327 (Nat.le_of_eq hg.symm)) hb); have n4_ := Aside0.mk (Kd.V_below (Kd.V_elderB (by (with_reducible repeat (first | apply Kd.V_alloc | apply Kd.V_drewN | apply Kd.V_drew)); exact HO312.out) gb327 (Nat.le_of_eq hg.symm)) hb); have n5_ := Aside0.mk (Kd.V_below (Kd.V_elderB (by (with_reducible repeat (first | apply Kd.V_alloc | apply Kd.V_drewN | apply Kd.V_drew)); exact HO321.out) gb327 (Nat.le_of_eq hg.symm)) hb); have n6_ := Aside0.mk (Kd.V_below (Kd.V_elderB (by (with_reducible repeat (first | apply Kd.V_alloc | apply Kd.V_drewN | apply Kd.V_drew)); exact HO324.out) gb327 (Nat.le_of_eq hg.symm)) hb); have n7_ := Aside0.mk (blk_below (g := gb272) (o := .cells #[.int .i64 t280, .int .u64 t281, .slice Ao20 t282.length co20] 27 (0, 0)) (by (with_reducible repeat (first | refine blk_drewN ?_ _ | refine blk_drew ?_ | refine blk_alloc ?_ _)); exact BK272.out) hb); have n8_ := Aside0.mk (blk_below (g := gb279) (o := .cells #[.int .i64 t290, .int .u64 t291, .slice Ao25 t292.length co25] 27 (0, 0)) (by (with_reducible repeat (first | refine blk_drewN ?_ _ | refine blk_drew ?_ | refine blk_alloc ?_ _)); exact BK279.out) hb); have n9_ := Aside0.mk (blk_below (g := gb304) (o := .cells #[.slice Ao32 y301.length co32, .int .i64 0] 33 (0, 0)) (by (with_reducible repeat (first | refine blk_drewN ?_ _ | refine blk_drew ?_ | refine blk_alloc ?_ _)); exact BK304.out) hb); have n10_ := Aside0.mk (blk_below (g := gb315) (o := .cells #[.int .i64 t305, .int .u64 t306, .slice Ao49 t307.length co49] 27 (0, 0)) (by (with_reducible repeat (first | refine blk_drewN ?_ _ | refine blk_drew ?_ | refine blk_alloc ?_ _)); exact BK315.out) hb); have n11_ := Aside0.mk (blk_below (g := gb316) (o := .cells #[.slice Ao51 t310.length co51, .int .i64 t313] 33 (0, 0)) (by (with_reducible repeat (first | refine blk_drewN ?_ _ | refine blk_drew ?_ | refine blk_alloc ?_ _)); exact BK316.out) hb); have n12_ := Aside0.mk (below_step (by repeat (first | (with_reducible first | exact HB.out | apply below_alloc | apply pw_below_drewN | apply below_drew1 | refine below_set ?_ GE272.out | refine below_set ?_ GE279.out | refine below_set ?_ GE304.out | refine below_set ?_ GE315.out | refine below_set ?_ GE316.out) | exact HB.out)) hb); have n13_ := Aside0.mk (hbox); have n14_ := Aside0.mk ((by rw [hg]; exact (below_size (by repeat (first | (with_reducible first | exact HB.out | apply below_alloc | apply pw_below_drewN | apply below_drew1 | refine below_set ?_ GE272.out | refine below_set ?_ GE279.out | refine below_set ?_ GE304.out | refine below_set ?_ GE315.out | refine below_set ?_ GE316.out) | exact HB.out))) : w.heap.size ≤ gb327)); have n15_ := Aside0.mk ((by rw [hg]; exact (below_size (by repeat (first | (with_reducible first | exact HB.out | apply below_alloc | apply pw_below_drewN | apply below_drew1 | refine below_set ?_ GE272.out | refine below_set ?_ GE279.out | refine below_set ?_ GE304.out | refine below_set ?_ GE315.out | refine below_set ?_ GE316.out) | exact HB.out))) : w.heap.size ≤ gb327)); have n16_ := Aside0.mk ((by rw [hg]; exact Nat.ne_of_lt (blk_lt (g := gb272) (o := .cells #[.int .i64 t280, .int .u64 t281, .slice Ao20 t282.length co20] 27 (0, 0)) (by (with_reducible repeat (first | refine blk_drewN ?_ _ | refine blk_drew ?_ | refine blk_alloc ?_ _)); exact BK272.out)) : gb272 ≠ gb327)); have n17_ := Aside0.mk ((by rw [hg]; exact Nat.ne_of_gt (blk_lt (g := gb272) (o := .cells #[.int .i64 t280, .int .u64 t281, .slice Ao20 t282.length co20] 27 (0, 0)) (by (with_reducible repeat (first | refine blk_drewN ?_ _ | refine blk_drew ?_ | refine blk_alloc ?_ _)); exact BK272.out)) : gb327 ≠ gb272)); have n18_ := Aside0.mk ((by rw [hg]; exact Nat.ne_of_lt (blk_lt (g := gb279) (o := .cells #[.int .i64 t290, .int .u64 t291, .slice Ao25 t292.length co25] 27 (0, 0)) (by (with_reducible repeat (first | refine blk_drewN ?_ _ | refine blk_drew ?_ | refine blk_alloc ?_ _)); exact BK279.out)) : gb279 ≠ gb327)); have n19_ := Aside0.mk ((by rw [hg]; exact Nat.ne_of_gt (blk_lt (g := gb279) (o := .cells #[.int .i64 t290, .int .u64 t291, .slice Ao25 t292.length co25] 27 (0, 0)) (by (with_reducible repeat (first | refine blk_drewN ?_ _ | refine blk_drew ?_ | refine blk_alloc ?_ _)); exact BK279.out)) : gb327 ≠ gb279)); have n20_ := Aside0.mk ((by rw [hg]; exact Nat.ne_of_lt (blk_lt (g := gb304) (o := .cells #[.slice Ao32 y301.length co32, .int .i64 0] 33 (0, 0)) (by (with_reducible repeat (first | refine blk_drewN ?_ _ | refine blk_drew ?_ | refine blk_alloc ?_ _)); exact BK304.out)) : gb304 ≠ gb327)); have n21_ := Aside0.mk ((by rw [hg]; exact Nat.ne_of_gt (blk_lt (g := gb304) (o := .cells #[.slice Ao32 y301.length co32, .int .i64 0] 33 (0, 0)) (by (with_reducible repeat (first | refine blk_drewN ?_ _ | refine blk_drew ?_ | refine blk_alloc ?_ _)); exact BK304.out)) : gb327 ≠ gb304)); have n22_ := Aside0.mk ((by rw [hg]; exact Nat.ne_of_lt (blk_lt (g := gb315) (o := .cells #[.int .i64 t305, .int .u64 t306, .slice Ao49 t307.length co49] 27 (0, 0)) (by (with_reducible repeat (first | refine blk_drewN ?_ _ | refine blk_drew ?_ | refine blk_alloc ?_ _)); exact BK315.out)) : gb315 ≠ gb327)); have n23_ := Aside0.mk ((by rw [hg]; exact Nat.ne_of_gt (blk_lt (g := gb315) (o := .cells #[.int .i64 t305, .int .u64 t306, .slice Ao49 t307.length co49] 27 (0, 0)) (by (with_reducible repeat (first | refine blk_drewN ?_ _ | refine blk_drew ?_ | refine blk_alloc ?_ _)); exact BK315.out)) : gb327 ≠ gb315)); have n24_ := Aside0.mk ((by rw [hg]; exact Nat.ne_of_lt (blk_lt (g := gb316) (o := .cells #[.slice Ao51 t310.length co51, .int .i64 t313] 33 (0, 0)) (by (with_reducible repeat (first | refine blk_drewN ?_ _ | refine blk_drew ?_ | refine blk_alloc ?_ _)); exact BK316.out)) : gb316 ≠ gb327)); have n25_ := Aside0.mk ((by rw [hg]; exact Nat.ne_of_gt (blk_lt (g := gb316) (o := .cells #[.slice Ao51 t310.length co51, .int .i64 t313] 33 (0, 0)) (by (with_reducible repeat (first | refine blk_drewN ?_ _ | refine blk_drew ?_ | refine blk_alloc ?_ _)); exact BK316.out)) : gb327 ≠ gb316)); clear HO_273002; clear HO_280002; clear HO303; clear HO309; clear HO312; clear HO321; clear HO324; clear BK272; clear BK279; clear BK304; clear BK315; clear BK316; clear HB; have HO_273002 := n0_; have HO_280002 := n1_; have HO303 := n2_; have HO309 := n3_; have HO312 := n4_; have HO321 := n5_; have HO324 := n6_; have BK272 := n7_; have BK279 := n8_; have BK304 := n9_; have BK315 := n10_; have BK316 := n11_; have HB := n12_; have BK327 := n13_; have GW327 := n14_; have GE327 := n15_; have NB272_327 := n16_; have NB327_272 := n17_; have NB279_327 := n18_; have NB327_279 := n19_; have NB304_327 := n20_; have NB327_304 := n21_; have NB315_327 := n22_; have NB327_315 := n23_; have NB316_327 := n24_; have NB327_316 := n25_; clear n0_ n1_ n2_ n3_ n4_ n5_ n6_ n7_ n8_ n9_ n10_ n11_ n12_ n13_ n14_ n15_ n16_ n17_ n18_ n19_ n20_ n21_ n22_ n23_ n24_ n25_; clear hb hbox hg) | ((with_reducible refine gate_dst (N := 19) rfl ?_); (try (refine gate_guard (by rfl) ?_; dsimp only)); refine box_event ?hg (N := 19) ?hd (cs := #[.slice none 0 0, .int .i64 0]) (t := 33) ?hr ?_; (case hd => rfl); (case hg => rfl); (case hr => first | (go_simp; done) | (go_simp; rfl)); intro gb328 hg w62 hbox hb; have n0_ := Aside0.mk (Kd.V_below (Kd.V_elderB (by (with_reducible repeat (first | apply Kd.V_alloc | apply Kd.V_drewN | apply Kd.V_drew)); exact HO_273002.out) gb328 (Nat.le_of_eq hg.symm)) hb); have n1_ := Aside0.mk (Kd.V_below (Kd.V_elderB (by (with_reducible repeat (first | apply Kd.V_alloc | apply Kd.V_drewN | apply Kd.V_drew)); exact HO_280002.out) gb328 (Nat.le_of_eq hg.symm)) hb); have n2_ := Aside0.mk (Kd.R_below (by (with_reducible repeat (first | apply Kd.R_alloc | apply Kd.R_drewN | apply Kd.R_drew)); exact HO303.out) hb); have n3_ := Aside0.mk (Kd.V_below (Kd.V_elderB (by (with_reducible repeat (first | apply Kd.V_alloc | apply Kd.V_drewN | apply Kd.V_drew)); exact HO309.out) gb328 (Nat.le_of_eq hg.symm)) hb); have n4_ := Aside0.mk (Kd.V_below (Kd.V_elderB (by (with_reducible repeat (first | apply Kd.V_alloc | apply Kd.V_drewN | apply Kd.V_drew)); exact HO312.out) gb328 (Nat.le_of_eq hg.symm)) hb); have n5_ := Aside0.mk (Kd.V_below (Kd.V_elderB (by (with_reducible repeat (first | apply Kd.V_alloc | apply Kd.V_drewN | apply Kd.V_drew)); exact HO321.out) gb328 (Nat.le_of_eq hg.symm)) hb); have n6_ := Aside0.mk (Kd.V_below (Kd.V_elderB (by (with_reducible repeat (first | apply Kd.V_alloc | apply Kd.V_drewN | apply Kd.V_drew)); exact HO324.out) gb328 (Nat.le_of_eq hg.symm)) hb); have n7_ := Aside0.mk (blk_below (g := gb272) (o := .cells #[.int .i64 t280, .int .u64 t281, .slice Ao20 t282.length co20] 27 (0, 0)) (by (with_reducible repeat (first | refine blk_drewN ?_ _ | refine blk_drew ?_ | refine blk_alloc ?_ _)); exact BK272.out) hb); have n8_ := Aside0.mk (blk_below (g := gb279) (o := .cells #[.int .i64 t290, .int .u64 t291, .slice Ao25 t292.length co25] 27 (0, 0)) (by (with_reducible repeat (first | refine blk_drewN ?_ _ | refine blk_drew ?_ | refine blk_alloc ?_ _)); exact BK279.out) hb); have n9_ := Aside0.mk (blk_below (g := gb304) (o := .cells #[.slice Ao32 y301.length co32, .int .i64 0] 33 (0, 0)) (by (with_reducible repeat (first | refine blk_drewN ?_ _ | refine blk_drew ?_ | refine blk_alloc ?_ _)); exact BK304.out) hb); have n10_ := Aside0.mk (blk_below (g := gb315) (o := .cells #[.int .i64 t305, .int .u64 t306, .slice Ao49 t307.length co49] 27 (0, 0)) (by (with_reducible repeat (first | refine blk_drewN ?_ _ | refine blk_drew ?_ | refine blk_alloc ?_ _)); exact BK315.out) hb); have n11_ := Aside0.mk (blk_below (g := gb316) (o := .cells #[.slice Ao51 t310.length co51, .int .i64 t313] 33 (0, 0)) (by (with_reducible repeat (first | refine blk_drewN ?_ _ | refine blk_drew ?_ | refine blk_alloc ?_ _)); exact BK316.out) hb); have n12_ := Aside0.mk (blk_below (g := gb327) (o := .cells #[.int .i64 0, .int .u64 0, .slice none 0 0] 27 (0, 0)) (by (with_reducible repeat (first | refine blk_drewN ?_ _ | refine blk_drew ?_ | refine blk_alloc ?_ _)); exact BK327.out) hb); have n13_ := Aside0.mk (below_step (by repeat (first | (with_reducible first | exact HB.out | apply below_alloc | apply pw_below_drewN | apply below_drew1 | refine below_set ?_ GE272.out | refine below_set ?_ GE279.out | refine below_set ?_ GE304.out | refine below_set ?_ GE315.out | refine below_set ?_ GE316.out | refine below_set ?_ GE327.out) | exact HB.out)) hb); have n14_ := Aside0.mk (hbox); have n15_ := Aside0.mk ((by rw [hg]; exact (below_size (by repeat (first | (with_reducible first | exact HB.out | apply below_alloc | apply pw_below_drewN | apply below_drew1 | refine below_set ?_ GE272.out | refine below_set ?_ GE279.out | refine below_set ?_ GE304.out | refine below_set ?_ GE315.out | refine below_set ?_ GE316.out | refine below_set ?_ GE327.out) | exact HB.out))) : w.heap.size ≤ gb328)); have n16_ := Aside0.mk ((by rw [hg]; exact (below_size (by repeat (first | (with_reducible first | exact HB.out | apply below_alloc | apply pw_below_drewN | apply below_drew1 | refine below_set ?_ GE272.out | refine below_set ?_ GE279.out | refine below_set ?_ GE304.out | refine below_set ?_ GE315.out | refine below_set ?_ GE316.out | refine below_set ?_ GE327.out) | exact HB.out))) : w.heap.size ≤ gb328)); have n17_ := Aside0.mk ((by rw [hg]; exact Nat.ne_of_lt (blk_lt (g := gb272) (o := .cells #[.int .i64 t280, .int .u64 t281, .slice Ao20 t282.length co20] 27 (0, 0)) (by (with_reducible repeat (first | refine blk_drewN ?_ _ | refine blk_drew ?_ | refine blk_alloc ?_ _)); exact BK272.out)) : gb272 ≠ gb328)); have n18_ := Aside0.mk ((by rw [hg]; exact Nat.ne_of_gt (blk_lt (g := gb272) (o := .cells #[.int .i64 t280, .int .u64 t281, .slice Ao20 t282.length co20] 27 (0, 0)) (by (with_reducible repeat (first | refine blk_drewN ?_ _ | refine blk_drew ?_ | refine blk_alloc ?_ _)); exact BK272.out)) : gb328 ≠ gb272)); have n19_ := Aside0.mk ((by rw [hg]; exact Nat.ne_of_lt (blk_lt (g := gb279) (o := .cells #[.int .i64 t290, .int .u64 t291, .slice Ao25 t292.length co25] 27 (0, 0)) (by (with_reducible repeat (first | refine blk_drewN ?_ _ | refine blk_drew ?_ | refine blk_alloc ?_ _)); exact BK279.out)) : gb279 ≠ gb328)); have n20_ := Aside0.mk ((by rw [hg]; exact Nat.ne_of_gt (blk_lt (g := gb279) (o := .cells #[.int .i64 t290, .int .u64 t291, .slice Ao25 t292.length co25] 27 (0, 0)) (by (with_reducible repeat (first | refine blk_drewN ?_ _ | refine blk_drew ?_ | refine blk_alloc ?_ _)); exact BK279.out)) : gb328 ≠ gb279)); have n21_ := Aside0.mk ((by rw [hg]; exact Nat.ne_of_lt (blk_lt (g := gb304) (o := .cells #[.slice Ao32 y301.length co32, .int .i64 0] 33 (0, 0)) (by (with_reducible repeat (first | refine blk_drewN ?_ _ | refine blk_drew ?_ | refine blk_alloc ?_ _)); exact BK304.out)) : gb304 ≠ gb328)); have n22_ := Aside0.mk ((by rw [hg]; exact Nat.ne_of_gt (blk_lt (g := gb304) (o := .cells #[.slice Ao32 y301.length co32, .int .i64 0] 33 (0, 0)) (by (with_reducible repeat (first | refine blk_drewN ?_ _ | refine blk_drew ?_ | refine blk_alloc ?_ _)); exact BK304.out)) : gb328 ≠ gb304)); have n23_ := Aside0.mk ((by rw [hg]; exact Nat.ne_of_lt (blk_lt (g := gb315) (o := .cells #[.int .i64 t305, .int .u64 t306, .slice Ao49 t307.length co49] 27 (0, 0)) (by (with_reducible repeat (first | refine blk_drewN ?_ _ | refine blk_drew ?_ | refine blk_alloc ?_ _)); exact BK315.out)) : gb315 ≠ gb328)); have n24_ := Aside0.mk ((by rw [hg]; exact Nat.ne_of_gt (blk_lt (g := gb315) (o := .cells #[.int .i64 t305, .int .u64 t306, .slice Ao49 t307.length co49] 27 (0, 0)) (by (with_reducible repeat (first | refine blk_drewN ?_ _ | refine blk_drew ?_ | refine blk_alloc ?_ _)); exact BK315.out)) : gb328 ≠ gb315)); have n25_ := Aside0.mk ((by rw [hg]; exact Nat.ne_of_lt (blk_lt (g := gb316) (o := .cells #[.slice Ao51 t310.length co51, .int .i64 t313] 33 (0, 0)) (by (with_reducible repeat (first | refine blk_drewN ?_ _ | refine blk_drew ?_ | refine blk_alloc ?_ _)); exact BK316.out)) : gb316 ≠ gb328)); have n26_ := Aside0.mk ((by rw [hg]; exact Nat.ne_of_gt (blk_lt (g := gb316) (o := .cells #[.slice Ao51 t310.length co51, .int .i64 t313] 33 (0, 0)) (by (with_reducible repeat (first | refine blk_drewN ?_ _ | refine blk_drew ?_ | refine blk_alloc ?_ _)); exact BK316.out)) : gb328 ≠ gb316)); have n27_ := Aside0.mk ((by rw [hg]; exact Nat.ne_of_lt (blk_lt (g := gb327) (o := .cells #[.int .i64 0, .int .u64 0, .slice none 0 0] 27 (0, 0)) (by (with_reducible repeat (first | refine blk_drewN ?_ _ | refine blk_drew ?_ | refine blk_alloc ?_ _)); exact BK327.out)) : gb327 ≠ gb328)); have n28_ := Aside0.mk ((by rw [hg]; exact Nat.ne_of_gt (blk_lt (g := gb327) (o := .cells #[.int .i64 0, .int .u64 0, .slice none 0 0] 27 (0, 0)) (by (with_reducible repeat (first | refine blk_drewN ?_ _ | refine blk_drew ?_ | refine blk_alloc ?_ _)); exact BK327.out)) : gb328 ≠ gb327)); clear HO_273002; clear HO_280002; clear HO303; clear HO309; clear HO312; clear HO321; clear HO324; clear BK272; clear BK279; clear BK304; clear BK315; clear BK316; clear BK327; clear HB; have HO_273002 := n0_; have HO_280002 := n1_; have HO303 := n2_; have HO309 := n3_; have HO312 := n4_; have HO321 := n5_; have HO324 := n6_; have BK272 := n7_; have BK279 := n8_; have BK304 := n9_; have BK315 := n10_; have BK316 := n11_; have BK327 := n12_; have HB := n13_; have BK328 := n14_; have GW328 := n15_; have GE328 := n16_; have NB272_328 := n17_; have NB328_272 := n18_; have NB279_328 := n19_; have NB328_279 := n20_; have NB304_328 := n21_; have NB328_304 := n22_; have NB315_328 := n23_; have NB328_315 := n24_; have NB316_328 := n25_; have NB328_316 := n26_; have NB327_328 := n27_; have NB328_327 := n28_; clear n0_ n1_ n2_ n3_ n4_ n5_ n6_ n7_ n8_ n9_ n10_ n11_ n12_ n13_ n14_ n15_ n16_ n17_ n18_ n19_ n20_ n21_ n22_ n23_ n24_ n25_ n26_ n27_ n28_; clear hb hbox hg; have hnb63 := NB327_272.out; have hnc63 := NB272_327.out; have hnb64 := NB327_279.out; have hnc64 := NB279_327.out; have hnb65 := NB327_304.out; have hnc65 := NB304_327.out; have hnb66 := NB327_315.out; have hnc66 := NB315_327.out; have hnb67 := NB327_316.out; have hnc67 := NB316_327.out; have hnb68 := NB327_328.out; have hnc68 := NB328_327.out; have hcz69_0 : w62.cell? ⟨gb327, 0, none⟩ = some (.int .i64 0) := (blk_cell BK327.out 0).trans rfl; have hcz69_1 : w62.cell? ⟨gb327, 1, none⟩ = some (.int .u64 0) := (blk_cell BK327.out 1).trans rfl; have hcz69_2 : w62.cell? ⟨gb327, 2, none⟩ = some (.slice none 0 0) := (blk_cell BK327.out 2).trans rfl; have hfz69_0 := blk_frozen BK327.out 0; have hfz69_1 := blk_frozen BK327.out 1; have hfz69_2 := blk_frozen BK327.out 2; obtain ⟨Ao70, co70, eo70⟩ := Kd.V_slice HO321.out; subst eo70; obtain ⟨Ao71, co71, eo71⟩ := Kd.V_slice HO324.out; subst eo71; have hnb72 := NB328_272.out; have hnc72 := NB272_328.out; have hnb73 := NB328_279.out; have hnc73 := NB279_328.out; have hnb74 := NB328_304.out; have hnc74 := NB304_328.out; have hnb75 := NB328_315.out; have hnc75 := NB315_328.out; have hnb76 := NB328_316.out; have hnc76 := NB316_328.out; have hcz77_0 : w62.cell? ⟨gb328, 0, none⟩ = some (.slice none 0 0) := (blk_cell BK328.out 0).trans rfl; have hcz77_1 : w62.cell? ⟨gb328, 1, none⟩ = some (.int .i64 0) := (blk_cell BK328.out 1).trans rfl; have hfz77_0 := blk_frozen BK328.out 0; have hfz77_1 := blk_frozen BK328.out 1))
    (try simp only [Act.put, List.setIfInBounds_toArray, List.set_cons_zero, List.set_cons_succ])
    go_cut [121] (fun v121 wc => ∃ (kq : Nat) (x121_28 : Bool), v121 = .bool x121_28 ∧ Aside0 (samphirelaw17_SlotsShare.j1 kq (IntKind.u64.wrap (1 + (IntKind.u64.wrap (Int.tmod a0 60)))) (IntKind.u64.wrap (1 + (IntKind.u64.wrap (Int.tmod a1 60)))) t271 t278 x11_1 x12_1 (IntKind.u64.wrap ((IntKind.u64.wrap (1 + (IntKind.u64.wrap (Int.tmod a0 60)))) + (IntKind.u64.wrap (1 + (IntKind.u64.wrap (Int.tmod a1 60)))))) x56_1 x121_28 t280 t281 t282 t290 t291 t292 t305 t306 t307 t317 t318 t319 = some r) ∧ Aside0 (kq ≤ k1) ∧ Aside0 (Kd.V Kd.string 9 wc w.heap.size (fun k_ => some k_ ≠ ((.slice Ao32 y301.length co32) : Value).ownBlock ∧ k_ ≠ gb272 ∧ k_ ≠ gb279 ∧ k_ ≠ gb304 ∧ k_ ≠ gb315 ∧ k_ ≠ gb316 ∧ k_ ≠ gb327 ∧ k_ ≠ gb328) (.slice Ao20 t282.length co20) t282) ∧ Aside0 (Kd.V Kd.string 9 wc w.heap.size (fun k_ => some k_ ≠ ((.slice Ao32 y301.length co32) : Value).ownBlock ∧ k_ ≠ gb272 ∧ k_ ≠ gb279 ∧ k_ ≠ gb304 ∧ k_ ≠ gb315 ∧ k_ ≠ gb316 ∧ k_ ≠ gb327 ∧ k_ ≠ gb328) (.slice Ao25 t292.length co25) t292) ∧ Aside0 (Kd.R (Kd.int .u64) 24 wc w.heap.size (fun _ => True) (.slice Ao32 y301.length co32) y301) ∧ Aside0 (Kd.V Kd.string 9 wc w.heap.size (fun k_ => k_ ≠ gb272 ∧ k_ ≠ gb279 ∧ k_ ≠ gb304 ∧ k_ ≠ gb315 ∧ k_ ≠ gb316 ∧ k_ ≠ gb327 ∧ k_ ≠ gb328) (.slice Ao49 t307.length co49) t307) ∧ Aside0 (Kd.V (Kd.int .u64) 24 wc w.heap.size (fun k_ => k_ ≠ gb272 ∧ k_ ≠ gb279 ∧ k_ ≠ gb304 ∧ k_ ≠ gb315 ∧ k_ ≠ gb316 ∧ k_ ≠ gb327 ∧ k_ ≠ gb328) (.slice Ao51 t310.length co51) t310) ∧ Aside0 (Kd.V Kd.string 9 wc w.heap.size (fun k_ => k_ ≠ gb272 ∧ k_ ≠ gb279 ∧ k_ ≠ gb304 ∧ k_ ≠ gb315 ∧ k_ ≠ gb316 ∧ k_ ≠ gb327 ∧ k_ ≠ gb328) (.slice Ao70 t319.length co70) t319) ∧ Aside0 (Kd.V (Kd.int .u64) 24 wc w.heap.size (fun k_ => k_ ≠ gb272 ∧ k_ ≠ gb279 ∧ k_ ≠ gb304 ∧ k_ ≠ gb315 ∧ k_ ≠ gb316 ∧ k_ ≠ gb327 ∧ k_ ≠ gb328) (.slice Ao71 t322.length co71) t322) ∧ Aside0 (wc.heap[gb272]? = some (.cells #[.int .i64 t280, .int .u64 t281, (.slice Ao20 t282.length co20)] 27 (0, 0))) ∧ Aside0 (wc.heap[gb279]? = some (.cells #[.int .i64 t290, .int .u64 t291, (.slice Ao25 t292.length co25)] 27 (0, 0))) ∧ Aside0 (wc.heap[gb304]? = some (.cells #[(.slice Ao32 y301.length co32), .int .i64 0] 33 (0, 0))) ∧ Aside0 (wc.heap[gb315]? = some (.cells #[.int .i64 t305, .int .u64 t306, (.slice Ao49 t307.length co49)] 27 (0, 0))) ∧ Aside0 (wc.heap[gb316]? = some (.cells #[(.slice Ao51 t310.length co51), .int .i64 t313] 33 (0, 0))) ∧ Aside0 (wc.heap[gb327]? = some (.cells #[.int .i64 t317, .int .u64 t318, (.slice Ao70 t319.length co70)] 27 (0, 0))) ∧ Aside0 (wc.heap[gb328]? = some (.cells #[(.slice Ao71 t322.length co71), .int .i64 t325] 33 (0, 0))) ∧ Aside0 (Below w.heap.size w wc))
    case first =>
     have H := HC29.out
     clear HC29
     by_cases c78 : t314 = 0
     ·
      rw [if_pos c78] at H
      have c78b0 : (t314 == 0) = true := beq_iff_eq.mpr c78
      have c78b1 : (t314 != 0) = false := bne_eq_false_iff_eq.mpr c78
      clear c78
      (first | rw [c78b0] | (simp only [i64_w, i32_w]; rw [c78b0]) | skip)
      by_cases c79 : t326 = 0
      ·
       rw [if_pos c79] at H
       have c79b0 : (t326 == 0) = true := beq_iff_eq.mpr c79
       have c79b1 : (t326 != 0) = false := bne_eq_false_iff_eq.mpr c79
       clear c79
       by_cases c80 : (t307.length : Int) = 1
       ·
        rw [if_pos c80] at H
        have c80b0 : ((t307.length : Int) == 1) = true := beq_iff_eq.mpr c80
        have c80b1 : ((t307.length : Int) != 1) = false := bne_eq_false_iff_eq.mpr c80
        clear c80
        by_cases c81 : (t319.length : Int) = 1
        ·
         rw [if_pos c81] at H
         have c81b0 : ((t319.length : Int) == 1) = true := beq_iff_eq.mpr c81
         have c81b1 : ((t319.length : Int) != 1) = false := bne_eq_false_iff_eq.mpr c81
         clear c81
         by_cases c82 : t313 = 1
         ·
          rw [if_pos c82] at H
          have c82b0 : (t313 == 1) = true := beq_iff_eq.mpr c82
          have c82b1 : (t313 != 1) = false := bne_eq_false_iff_eq.mpr c82
          clear c82
          by_cases c83 : t325 = 1
          ·
           rw [if_pos c83] at H
           have c83b0 : (t325 == 1) = true := beq_iff_eq.mpr c83
           have c83b1 : (t325 != 1) = false := bne_eq_false_iff_eq.mpr c83
           clear c83
           by_cases c84 : t306 = (IntKind.u64.wrap ((IntKind.u64.wrap (1 + (IntKind.u64.wrap (Int.tmod a0 60)))) + (IntKind.u64.wrap (1 + (IntKind.u64.wrap (Int.tmod a1 60))))))
           ·
            rw [if_pos c84] at H
            have c84b0 : (t306 == (IntKind.u64.wrap ((IntKind.u64.wrap (1 + (IntKind.u64.wrap (Int.tmod a0 60)))) + (IntKind.u64.wrap (1 + (IntKind.u64.wrap (Int.tmod a1 60))))))) = true := beq_iff_eq.mpr c84
            have c84b1 : (t306 != (IntKind.u64.wrap ((IntKind.u64.wrap (1 + (IntKind.u64.wrap (Int.tmod a0 60)))) + (IntKind.u64.wrap (1 + (IntKind.u64.wrap (Int.tmod a1 60))))))) = false := bne_eq_false_iff_eq.mpr c84
            clear c84
            have H' := Aside0.mk H
            clear H
            have hnb85 := NB315_272.out
            have hnc85 := NB272_315.out
            have hnb86 := NB315_279.out
            have hnc86 := NB279_315.out
            have hnb87 := NB315_304.out
            have hnc87 := NB304_315.out
            have hnb88 := NB315_316.out
            have hnc88 := NB316_315.out
            have hnb89 := NB315_327.out
            have hnc89 := NB327_315.out
            have hnb90 := NB315_328.out
            have hnc90 := NB328_315.out
            have hcz91_0 : w62.cell? ⟨gb315, 0, none⟩ = some (.int .i64 t305) := (blk_cell BK315.out 0).trans rfl
            have hcz91_1 : w62.cell? ⟨gb315, 1, none⟩ = some (.int .u64 t306) := (blk_cell BK315.out 1).trans rfl
            have hcz91_2 : w62.cell? ⟨gb315, 2, none⟩ = some (.slice Ao49 t307.length co49) := (blk_cell BK315.out 2).trans rfl
            have hfz91_0 := blk_frozen BK315.out 0
            have hfz91_1 := blk_frozen BK315.out 1
            have hfz91_2 := blk_frozen BK315.out 2
            have hnb92 := NB327_272.out
            have hnc92 := NB272_327.out
            have hnb93 := NB327_279.out
            have hnc93 := NB279_327.out
            have hnb94 := NB327_304.out
            have hnc94 := NB304_327.out
            have hnb95 := NB327_316.out
            have hnc95 := NB316_327.out
            have hnb96 := NB327_328.out
            have hnc96 := NB328_327.out
            have hcz97_0 : w62.cell? ⟨gb327, 0, none⟩ = some (.int .i64 0) := (blk_cell BK327.out 0).trans rfl
            have hcz97_1 : w62.cell? ⟨gb327, 1, none⟩ = some (.int .u64 0) := (blk_cell BK327.out 1).trans rfl
            have hcz97_2 : w62.cell? ⟨gb327, 2, none⟩ = some (.slice none 0 0) := (blk_cell BK327.out 2).trans rfl
            have hfz97_0 := blk_frozen BK327.out 0
            have hfz97_1 := blk_frozen BK327.out 1
            have hfz97_2 := blk_frozen BK327.out 2
            have hnb98 := NB316_272.out
            have hnc98 := NB272_316.out
            have hnb99 := NB316_279.out
            have hnc99 := NB279_316.out
            have hnb100 := NB316_304.out
            have hnc100 := NB304_316.out
            have hnb101 := NB316_328.out
            have hnc101 := NB328_316.out
            have hcz102_0 : w62.cell? ⟨gb316, 0, none⟩ = some (.slice Ao51 t310.length co51) := (blk_cell BK316.out 0).trans rfl
            have hcz102_1 : w62.cell? ⟨gb316, 1, none⟩ = some (.int .i64 t313) := (blk_cell BK316.out 1).trans rfl
            have hfz102_0 := blk_frozen BK316.out 0
            have hfz102_1 := blk_frozen BK316.out 1
            have hnb103 := NB328_272.out
            have hnc103 := NB272_328.out
            have hnb104 := NB328_279.out
            have hnc104 := NB279_328.out
            have hnb105 := NB328_304.out
            have hnc105 := NB304_328.out
            have hcz106_0 : w62.cell? ⟨gb328, 0, none⟩ = some (.slice none 0 0) := (blk_cell BK328.out 0).trans rfl
            have hcz106_1 : w62.cell? ⟨gb328, 1, none⟩ = some (.int .i64 0) := (blk_cell BK328.out 1).trans rfl
            have hfz106_0 := blk_frozen BK328.out 0
            have hfz106_1 := blk_frozen BK328.out 1
            go_wp2
            go_meet
            case rel => exact ⟨_, ((t318 != (IntKind.u64.wrap ((IntKind.u64.wrap (1 + (IntKind.u64.wrap (Int.tmod a0 60)))) + (IntKind.u64.wrap (1 + (IntKind.u64.wrap (Int.tmod a1 60)))))))), (by first | rfl | (simp; done) | (simp [*]; done)), H', ⟨by have := HK1.out; first | omega | exact Nat.le_refl _⟩, ⟨by (with_reducible repeat (first | apply Kd.V_alloc | apply Kd.V_drewN | apply Kd.V_drew)); exact Kd.V_mono (Kd.V_far (p := ⟨gb328, 1, none⟩) (Kd.V_far (p := ⟨gb328, 0, none⟩) (Kd.V_far (p := ⟨gb327, 2, none⟩) (Kd.V_far (p := ⟨gb327, 1, none⟩) (Kd.V_far (p := ⟨gb327, 0, none⟩) (Kd.V_mono (Kd.V_mono HO_273002.out (fun k_ hk => (⟨hk, hk.1.2⟩ : _ ∧ k_ ≠ gb327))) (fun k_ hk => (⟨hk, hk.1.2⟩ : _ ∧ k_ ≠ gb328))) (fun _ hk => hk.1.2) (.int .i64 t317)) (fun _ hk => hk.1.2) (.int .u64 t318)) (fun _ hk => hk.1.2) (.slice Ao70 t319.length co70)) (fun _ hk => hk.2) (.slice Ao71 t322.length co71)) (fun _ hk => hk.2) (.int .i64 t325)) (fun _ hk => ⟨hk.1.1.1.1.1, ⟨hk.1.1.1.1.2.1, ⟨hk.1.1.1.1.2.2.1, ⟨hk.1.1.1.1.2.2.2.1, ⟨hk.1.1.1.1.2.2.2.2.1, ⟨hk.1.1.1.1.2.2.2.2.2, ⟨hk.1.1.1.2, hk.1.1.2⟩⟩⟩⟩⟩⟩⟩)⟩, ⟨by (with_reducible repeat (first | apply Kd.V_alloc | apply Kd.V_drewN | apply Kd.V_drew)); exact Kd.V_mono (Kd.V_far (p := ⟨gb328, 1, none⟩) (Kd.V_far (p := ⟨gb328, 0, none⟩) (Kd.V_far (p := ⟨gb327, 2, none⟩) (Kd.V_far (p := ⟨gb327, 1, none⟩) (Kd.V_far (p := ⟨gb327, 0, none⟩) (Kd.V_mono (Kd.V_mono HO_280002.out (fun k_ hk => (⟨hk, hk.1.2⟩ : _ ∧ k_ ≠ gb327))) (fun k_ hk => (⟨hk, hk.1.2⟩ : _ ∧ k_ ≠ gb328))) (fun _ hk => hk.1.2) (.int .i64 t317)) (fun _ hk => hk.1.2) (.int .u64 t318)) (fun _ hk => hk.1.2) (.slice Ao70 t319.length co70)) (fun _ hk => hk.2) (.slice Ao71 t322.length co71)) (fun _ hk => hk.2) (.int .i64 t325)) (fun _ hk => ⟨hk.1.1.1.1.1, ⟨hk.1.1.1.1.2.1, ⟨hk.1.1.1.1.2.2.1, ⟨hk.1.1.1.1.2.2.2.1, ⟨hk.1.1.1.1.2.2.2.2.1, ⟨hk.1.1.1.1.2.2.2.2.2, ⟨hk.1.1.1.2, hk.1.1.2⟩⟩⟩⟩⟩⟩⟩)⟩, ⟨by (with_reducible repeat (first | apply Kd.R_alloc | apply Kd.R_drewN | apply Kd.R_drew)); exact Kd.R_mono (Kd.R_far (p := ⟨gb328, 1, none⟩) (Kd.R_far (p := ⟨gb328, 0, none⟩) (Kd.R_far (p := ⟨gb327, 2, none⟩) (Kd.R_far (p := ⟨gb327, 1, none⟩) (Kd.R_far (p := ⟨gb327, 0, none⟩) (Kd.R_types (Kd.R_types HO303.out BK327.out (by decide)) BK328.out (by decide)) (fun _ hk => hk.1.2) (.int .i64 t317)) (fun _ hk => hk.1.2) (.int .u64 t318)) (fun _ hk => hk.1.2) (.slice Ao70 t319.length co70)) (fun _ hk => hk.2) (.slice Ao71 t322.length co71)) (fun _ hk => hk.2) (.int .i64 t325)) (fun _ hk => trivial)⟩, ⟨by (with_reducible repeat (first | apply Kd.V_alloc | apply Kd.V_drewN | apply Kd.V_drew)); exact Kd.V_mono (Kd.V_far (p := ⟨gb328, 1, none⟩) (Kd.V_far (p := ⟨gb328, 0, none⟩) (Kd.V_far (p := ⟨gb327, 2, none⟩) (Kd.V_far (p := ⟨gb327, 1, none⟩) (Kd.V_far (p := ⟨gb327, 0, none⟩) (Kd.V_mono (Kd.V_mono HO309.out (fun k_ hk => (⟨hk, hk.1.2⟩ : _ ∧ k_ ≠ gb327))) (fun k_ hk => (⟨hk, hk.1.2⟩ : _ ∧ k_ ≠ gb328))) (fun _ hk => hk.1.2) (.int .i64 t317)) (fun _ hk => hk.1.2) (.int .u64 t318)) (fun _ hk => hk.1.2) (.slice Ao70 t319.length co70)) (fun _ hk => hk.2) (.slice Ao71 t322.length co71)) (fun _ hk => hk.2) (.int .i64 t325)) (fun _ hk => ⟨hk.1.1.1.1.1, ⟨hk.1.1.1.1.2.1, ⟨hk.1.1.1.1.2.2.1, ⟨hk.1.1.1.1.2.2.2.1, ⟨hk.1.1.1.1.2.2.2.2, ⟨hk.1.1.1.2, hk.1.1.2⟩⟩⟩⟩⟩⟩)⟩, ⟨by (with_reducible repeat (first | apply Kd.V_alloc | apply Kd.V_drewN | apply Kd.V_drew)); exact Kd.V_mono (Kd.V_far (p := ⟨gb328, 1, none⟩) (Kd.V_far (p := ⟨gb328, 0, none⟩) (Kd.V_far (p := ⟨gb327, 2, none⟩) (Kd.V_far (p := ⟨gb327, 1, none⟩) (Kd.V_far (p := ⟨gb327, 0, none⟩) (Kd.V_mono (Kd.V_mono HO312.out (fun k_ hk => (⟨hk, hk.1.2⟩ : _ ∧ k_ ≠ gb327))) (fun k_ hk => (⟨hk, hk.1.2⟩ : _ ∧ k_ ≠ gb328))) (fun _ hk => hk.1.2) (.int .i64 t317)) (fun _ hk => hk.1.2) (.int .u64 t318)) (fun _ hk => hk.1.2) (.slice Ao70 t319.length co70)) (fun _ hk => hk.2) (.slice Ao71 t322.length co71)) (fun _ hk => hk.2) (.int .i64 t325)) (fun _ hk => ⟨hk.1.1.1.1.1, ⟨hk.1.1.1.1.2.1, ⟨hk.1.1.1.1.2.2.1, ⟨hk.1.1.1.1.2.2.2.1, ⟨hk.1.1.1.1.2.2.2.2, ⟨hk.1.1.1.2, hk.1.1.2⟩⟩⟩⟩⟩⟩)⟩, ⟨by (with_reducible repeat (first | apply Kd.V_alloc | apply Kd.V_drewN | apply Kd.V_drew)); exact Kd.V_mono (Kd.V_far (p := ⟨gb328, 1, none⟩) (Kd.V_far (p := ⟨gb328, 0, none⟩) (Kd.V_far (p := ⟨gb327, 2, none⟩) (Kd.V_far (p := ⟨gb327, 1, none⟩) (Kd.V_far (p := ⟨gb327, 0, none⟩) (Kd.V_mono (Kd.V_mono HO321.out (fun k_ hk => (⟨hk, hk.1.2⟩ : _ ∧ k_ ≠ gb327))) (fun k_ hk => (⟨hk, hk.1.2⟩ : _ ∧ k_ ≠ gb328))) (fun _ hk => hk.1.2) (.int .i64 t317)) (fun _ hk => hk.1.2) (.int .u64 t318)) (fun _ hk => hk.1.2) (.slice Ao70 t319.length co70)) (fun _ hk => hk.2) (.slice Ao71 t322.length co71)) (fun _ hk => hk.2) (.int .i64 t325)) (fun _ hk => ⟨hk.1.1.1.1.1, ⟨hk.1.1.1.1.2.1, ⟨hk.1.1.1.1.2.2.1, ⟨hk.1.1.1.1.2.2.2.1, ⟨hk.1.1.1.1.2.2.2.2, ⟨hk.1.1.1.2, hk.1.1.2⟩⟩⟩⟩⟩⟩)⟩, ⟨by (with_reducible repeat (first | apply Kd.V_alloc | apply Kd.V_drewN | apply Kd.V_drew)); exact Kd.V_mono (Kd.V_far (p := ⟨gb328, 1, none⟩) (Kd.V_far (p := ⟨gb328, 0, none⟩) (Kd.V_far (p := ⟨gb327, 2, none⟩) (Kd.V_far (p := ⟨gb327, 1, none⟩) (Kd.V_far (p := ⟨gb327, 0, none⟩) (Kd.V_mono (Kd.V_mono HO324.out (fun k_ hk => (⟨hk, hk.1.2⟩ : _ ∧ k_ ≠ gb327))) (fun k_ hk => (⟨hk, hk.1.2⟩ : _ ∧ k_ ≠ gb328))) (fun _ hk => hk.1.2) (.int .i64 t317)) (fun _ hk => hk.1.2) (.int .u64 t318)) (fun _ hk => hk.1.2) (.slice Ao70 t319.length co70)) (fun _ hk => hk.2) (.slice Ao71 t322.length co71)) (fun _ hk => hk.2) (.int .i64 t325)) (fun _ hk => ⟨hk.1.1.1.1.1, ⟨hk.1.1.1.1.2.1, ⟨hk.1.1.1.1.2.2.1, ⟨hk.1.1.1.1.2.2.2.1, ⟨hk.1.1.1.1.2.2.2.2, ⟨hk.1.1.1.2, hk.1.1.2⟩⟩⟩⟩⟩⟩)⟩, ⟨by (with_reducible repeat (first | refine blk_drewN ?_ _ | refine blk_drew ?_ | refine blk_alloc ?_ _)); refine blk_far ?_ NB272_328.out _; (with_reducible repeat (first | refine blk_drewN ?_ _ | refine blk_drew ?_ | refine blk_alloc ?_ _)); refine blk_far ?_ NB272_328.out _; (with_reducible repeat (first | refine blk_drewN ?_ _ | refine blk_drew ?_ | refine blk_alloc ?_ _)); refine blk_far ?_ NB272_327.out _; (with_reducible repeat (first | refine blk_drewN ?_ _ | refine blk_drew ?_ | refine blk_alloc ?_ _)); refine blk_far ?_ NB272_327.out _; (with_reducible repeat (first | refine blk_drewN ?_ _ | refine blk_drew ?_ | refine blk_alloc ?_ _)); refine blk_far ?_ NB272_327.out _; (with_reducible repeat (first | refine blk_drewN ?_ _ | refine blk_drew ?_ | refine blk_alloc ?_ _)); exact BK272.out⟩, ⟨by (with_reducible repeat (first | refine blk_drewN ?_ _ | refine blk_drew ?_ | refine blk_alloc ?_ _)); refine blk_far ?_ NB279_328.out _; (with_reducible repeat (first | refine blk_drewN ?_ _ | refine blk_drew ?_ | refine blk_alloc ?_ _)); refine blk_far ?_ NB279_328.out _; (with_reducible repeat (first | refine blk_drewN ?_ _ | refine blk_drew ?_ | refine blk_alloc ?_ _)); refine blk_far ?_ NB279_327.out _; (with_reducible repeat (first | refine blk_drewN ?_ _ | refine blk_drew ?_ | refine blk_alloc ?_ _)); refine blk_far ?_ NB279_327.out _; (with_reducible repeat (first | refine blk_drewN ?_ _ | refine blk_drew ?_ | refine blk_alloc ?_ _)); refine blk_far ?_ NB279_327.out _; (with_reducible repeat (first | refine blk_drewN ?_ _ | refine blk_drew ?_ | refine blk_alloc ?_ _)); exact BK279.out⟩, ⟨by (with_reducible repeat (first | refine blk_drewN ?_ _ | refine blk_drew ?_ | refine blk_alloc ?_ _)); refine blk_far ?_ NB304_328.out _; (with_reducible repeat (first | refine blk_drewN ?_ _ | refine blk_drew ?_ | refine blk_alloc ?_ _)); refine blk_far ?_ NB304_328.out _; (with_reducible repeat (first | refine blk_drewN ?_ _ | refine blk_drew ?_ | refine blk_alloc ?_ _)); refine blk_far ?_ NB304_327.out _; (with_reducible repeat (first | refine blk_drewN ?_ _ | refine blk_drew ?_ | refine blk_alloc ?_ _)); refine blk_far ?_ NB304_327.out _; (with_reducible repeat (first | refine blk_drewN ?_ _ | refine blk_drew ?_ | refine blk_alloc ?_ _)); refine blk_far ?_ NB304_327.out _; (with_reducible repeat (first | refine blk_drewN ?_ _ | refine blk_drew ?_ | refine blk_alloc ?_ _)); exact BK304.out⟩, ⟨by (with_reducible repeat (first | refine blk_drewN ?_ _ | refine blk_drew ?_ | refine blk_alloc ?_ _)); refine blk_far ?_ NB315_328.out _; (with_reducible repeat (first | refine blk_drewN ?_ _ | refine blk_drew ?_ | refine blk_alloc ?_ _)); refine blk_far ?_ NB315_328.out _; (with_reducible repeat (first | refine blk_drewN ?_ _ | refine blk_drew ?_ | refine blk_alloc ?_ _)); refine blk_far ?_ NB315_327.out _; (with_reducible repeat (first | refine blk_drewN ?_ _ | refine blk_drew ?_ | refine blk_alloc ?_ _)); refine blk_far ?_ NB315_327.out _; (with_reducible repeat (first | refine blk_drewN ?_ _ | refine blk_drew ?_ | refine blk_alloc ?_ _)); refine blk_far ?_ NB315_327.out _; (with_reducible repeat (first | refine blk_drewN ?_ _ | refine blk_drew ?_ | refine blk_alloc ?_ _)); exact BK315.out⟩, ⟨by (with_reducible repeat (first | refine blk_drewN ?_ _ | refine blk_drew ?_ | refine blk_alloc ?_ _)); refine blk_far ?_ NB316_328.out _; (with_reducible repeat (first | refine blk_drewN ?_ _ | refine blk_drew ?_ | refine blk_alloc ?_ _)); refine blk_far ?_ NB316_328.out _; (with_reducible repeat (first | refine blk_drewN ?_ _ | refine blk_drew ?_ | refine blk_alloc ?_ _)); refine blk_far ?_ NB316_327.out _; (with_reducible repeat (first | refine blk_drewN ?_ _ | refine blk_drew ?_ | refine blk_alloc ?_ _)); refine blk_far ?_ NB316_327.out _; (with_reducible repeat (first | refine blk_drewN ?_ _ | refine blk_drew ?_ | refine blk_alloc ?_ _)); refine blk_far ?_ NB316_327.out _; (with_reducible repeat (first | refine blk_drewN ?_ _ | refine blk_drew ?_ | refine blk_alloc ?_ _)); exact BK316.out⟩, ⟨by (with_reducible repeat (first | refine blk_drewN ?_ _ | refine blk_drew ?_ | refine blk_alloc ?_ _)); refine blk_far ?_ NB327_328.out _; (with_reducible repeat (first | refine blk_drewN ?_ _ | refine blk_drew ?_ | refine blk_alloc ?_ _)); refine blk_far ?_ NB327_328.out _; (with_reducible repeat (first | refine blk_drewN ?_ _ | refine blk_drew ?_ | refine blk_alloc ?_ _)); refine blk_put (cs := #[.int .i64 t317, .int .u64 t318, .slice none 0 0]) ?_ 2 _ rfl; (with_reducible repeat (first | refine blk_drewN ?_ _ | refine blk_drew ?_ | refine blk_alloc ?_ _)); refine blk_put (cs := #[.int .i64 t317, .int .u64 0, .slice none 0 0]) ?_ 1 _ rfl; (with_reducible repeat (first | refine blk_drewN ?_ _ | refine blk_drew ?_ | refine blk_alloc ?_ _)); refine blk_put (cs := #[.int .i64 0, .int .u64 0, .slice none 0 0]) ?_ 0 _ rfl; (with_reducible repeat (first | refine blk_drewN ?_ _ | refine blk_drew ?_ | refine blk_alloc ?_ _)); exact BK327.out⟩, ⟨by (with_reducible repeat (first | refine blk_drewN ?_ _ | refine blk_drew ?_ | refine blk_alloc ?_ _)); refine blk_put (cs := #[.slice Ao71 t322.length co71, .int .i64 0]) ?_ 1 _ rfl; (with_reducible repeat (first | refine blk_drewN ?_ _ | refine blk_drew ?_ | refine blk_alloc ?_ _)); refine blk_put (cs := #[.slice none 0 0, .int .i64 0]) ?_ 0 _ rfl; (with_reducible repeat (first | refine blk_drewN ?_ _ | refine blk_drew ?_ | refine blk_alloc ?_ _)); refine blk_far ?_ NB328_327.out _; (with_reducible repeat (first | refine blk_drewN ?_ _ | refine blk_drew ?_ | refine blk_alloc ?_ _)); refine blk_far ?_ NB328_327.out _; (with_reducible repeat (first | refine blk_drewN ?_ _ | refine blk_drew ?_ | refine blk_alloc ?_ _)); refine blk_far ?_ NB328_327.out _; (with_reducible repeat (first | refine blk_drewN ?_ _ | refine blk_drew ?_ | refine blk_alloc ?_ _)); exact BK328.out⟩, ⟨by repeat (first | (with_reducible first | exact HB.out | apply below_alloc | apply pw_below_drewN | apply below_drew1 | refine below_set ?_ GE272.out | refine below_set ?_ GE279.out | refine below_set ?_ GE304.out | refine below_set ?_ GE315.out | refine below_set ?_ GE316.out | refine below_set ?_ GE327.out | refine below_set ?_ GE328.out) | exact HB.out)⟩⟩
           ·
            rw [if_neg c84] at H; cases H
          ·
           rw [if_neg c83] at H; cases H
         ·
          rw [if_neg c82] at H; cases H
        ·
         rw [if_neg c81] at H; cases H
       ·
        rw [if_neg c80] at H; cases H
      ·
       rw [if_neg c79] at H; cases H
     ·
      rw [if_neg c78] at H; cases H
    case rest =>
     clear HC29
     try clear c1
     try clear c2
     try clear p2
     try clear c3
     try clear c4
     try clear c5
     try clear c6
     try clear c7
     try clear c8
     try clear c9
     try clear c10
     try clear c11
     try clear c12
     try clear c13
     try clear c14
     try clear c15
     try clear c16
     try clear c17
     try clear c18
     try clear c26
     try clear c26b0
     try clear c34
     try clear c35
     try clear c38
     try clear c44
     try clear c45
     try clear c46
     try clear c47
     try clear c52
     try clear c53
     try clear c54
     try clear c63
     try clear c64
     try clear c65
     try clear c66
     try clear c67
     try clear c68
     try clear c72
     try clear c73
     try clear c74
     try clear c75
     try clear c76
     try clear c78
     try clear c78b0
     try clear c78b1
     try clear c79
     try clear c79b0
     try clear c79b1
     try clear c80
     try clear c80b0
     try clear c80b1
     try clear c81
     try clear c81b0
     try clear c81b1
     try clear c82
     try clear c82b0
     try clear c82b1
     try clear c83
     try clear c83b0
     try clear c83b1
     try clear c84
     try clear c84b0
     try clear c84b1
     try clear c85
     try clear c86
     try clear c87
     try clear c88
     try clear c89
     try clear c90
     try clear c92
     try clear c93
     try clear c94
     try clear c95
     try clear c96
     try clear c98
     try clear c99
     try clear c100
     try clear c101
     try clear c103
     try clear c104
     try clear c105
     try clear c107
     try clear c108
     try clear c109
     try clear c110
     try clear c111
     try clear c112
     try clear c114
     try clear c115
     try clear c116
     try clear c117
     try clear c118
     try clear c120
     try clear c121
     try clear c122
     try clear c123
     try clear c125
     try clear c126
     try clear c127
     try clear c129
     try clear c130
     try clear c131
     try clear c132
     try clear c133
     try clear c134
     try clear c136
     try clear c137
     try clear c138
     try clear c139
     try clear c140
     try clear c142
     try clear c143
     try clear c144
     try clear c145
     try clear c147
     try clear c148
     try clear c149
     try clear c151
     try clear c152
     try clear c153
     try clear c154
     try clear c155
     try clear c156
     try clear c158
     try clear c159
     try clear c160
     try clear c161
     try clear c162
     try clear c164
     try clear c165
     try clear c166
     try clear c167
     try clear c169
     try clear c170
     try clear c171
     try clear c172
     try clear c173
     try clear c174
     try clear c176
     try clear c177
     try clear c178
     try clear c179
     try clear c180
     try clear c182
     try clear c183
     try clear c184
     try clear c185
     try clear c186
     try clear c187
     try clear hcz102_0
     try clear hcz102_1
     try clear hcz106_0
     try clear hcz106_1
     try clear hcz113_0
     try clear hcz113_1
     try clear hcz113_2
     try clear hcz119_0
     try clear hcz119_1
     try clear hcz119_2
     try clear hcz124_0
     try clear hcz124_1
     try clear hcz128_0
     try clear hcz128_1
     try clear hcz135_0
     try clear hcz135_1
     try clear hcz135_2
     try clear hcz141_0
     try clear hcz141_1
     try clear hcz141_2
     try clear hcz146_0
     try clear hcz146_1
     try clear hcz14_0
     try clear hcz14_1
     try clear hcz14_2
     try clear hcz150_0
     try clear hcz150_1
     try clear hcz157_0
     try clear hcz157_1
     try clear hcz157_2
     try clear hcz163_0
     try clear hcz163_1
     try clear hcz163_2
     try clear hcz168_0
     try clear hcz168_1
     try clear hcz175_0
     try clear hcz175_1
     try clear hcz175_2
     try clear hcz17_0
     try clear hcz17_1
     try clear hcz17_2
     try clear hcz181_0
     try clear hcz181_1
     try clear hcz181_2
     try clear hcz188_0
     try clear hcz188_1
     try clear hcz188_2
     try clear hcz19_0
     try clear hcz19_1
     try clear hcz19_2
     try clear hcz22_0
     try clear hcz22_1
     try clear hcz22_2
     try clear hcz24_0
     try clear hcz24_1
     try clear hcz24_2
     try clear hcz36_0
     try clear hcz36_1
     try clear hcz39_0
     try clear hcz39_1
     try clear hcz39_2
     try clear hcz40_0
     try clear hcz40_1
     try clear hcz48_0
     try clear hcz48_1
     try clear hcz48_2
     try clear hcz55_0
     try clear hcz55_1
     try clear hcz57_0
     try clear hcz57_1
     try clear hcz57_2
     try clear hcz58_0
     try clear hcz58_1
     try clear hcz58_2
     try clear hcz59_0
     try clear hcz59_1
     try clear hcz69_0
     try clear hcz69_1
     try clear hcz69_2
     try clear hcz77_0
     try clear hcz77_1
     try clear hcz91_0
     try clear hcz91_1
     try clear hcz91_2
     try clear hcz97_0
     try clear hcz97_1
     try clear hcz97_2
     try clear hcz9_0
     try clear hcz9_1
     try clear hcz9_2
     try clear hfz102_0
     try clear hfz102_1
     try clear hfz106_0
     try clear hfz106_1
     try clear hfz113_0
     try clear hfz113_1
     try clear hfz113_2
     try clear hfz119_0
     try clear hfz119_1
     try clear hfz119_2
     try clear hfz124_0
     try clear hfz124_1
     try clear hfz128_0
     try clear hfz128_1
     try clear hfz135_0
     try clear hfz135_1
     try clear hfz135_2
     try clear hfz141_0
     try clear hfz141_1
     try clear hfz141_2
     try clear hfz146_0
     try clear hfz146_1
     try clear hfz14_0
     try clear hfz14_1
     try clear hfz14_2
     try clear hfz150_0
     try clear hfz150_1
     try clear hfz157_0
     try clear hfz157_1
     try clear hfz157_2
     try clear hfz163_0
     try clear hfz163_1
     try clear hfz163_2
     try clear hfz168_0
     try clear hfz168_1
     try clear hfz175_0
     try clear hfz175_1
     try clear hfz175_2
     try clear hfz17_0
     try clear hfz17_1
     try clear hfz17_2
     try clear hfz181_0
     try clear hfz181_1
     try clear hfz181_2
     try clear hfz188_0
     try clear hfz188_1
     try clear hfz188_2
     try clear hfz19_0
     try clear hfz19_1
     try clear hfz19_2
     try clear hfz22_0
     try clear hfz22_1
     try clear hfz22_2
     try clear hfz24_0
     try clear hfz24_1
     try clear hfz24_2
     try clear hfz36_0
     try clear hfz36_1
     try clear hfz39_0
     try clear hfz39_1
     try clear hfz39_2
     try clear hfz40_0
     try clear hfz40_1
     try clear hfz48_0
     try clear hfz48_1
     try clear hfz48_2
     try clear hfz55_0
     try clear hfz55_1
     try clear hfz57_0
     try clear hfz57_1
     try clear hfz57_2
     try clear hfz58_0
     try clear hfz58_1
     try clear hfz58_2
     try clear hfz59_0
     try clear hfz59_1
     try clear hfz69_0
     try clear hfz69_1
     try clear hfz69_2
     try clear hfz77_0
     try clear hfz77_1
     try clear hfz91_0
     try clear hfz91_1
     try clear hfz91_2
     try clear hfz97_0
     try clear hfz97_1
     try clear hfz97_2
     try clear hfz9_0
     try clear hfz9_1
     try clear hfz9_2
     try clear p2
     obtain ⟨kq, x121_28, rfl, HA, HJ28, HO_273002, HO_280002, HO_305000, HO_316002, HO_317000, HO_328002, HO_329000, BK272, BK279, BK304, BK315, BK316, BK327, BK328, HB⟩ := hcut
     cases kq with
     | zero => exact absurd HA.out (by simp [samphirelaw17_SlotsShare.j1])
     | succ kj28 =>
      have H := HA.out
      clear HA
      simp only [samphirelaw17_SlotsShare.j1] at H
      by_cases c189 : x121_28 = true
      ·
       subst c189
       have H1 : (some false) = some r := by rw [if_pos rfl] at H; exact H
       clear H
       have H := H1
       clear H1
       obtain rfl := Option.some.inj H
       go_wp2
       go_ret
       exact ⟨by first | rfl | (simp [errW_none, errW_some] <;> rfl) | (simp [*, errW_none, errW_some] <;> rfl), by repeat (first | (with_reducible first | exact HB.out | apply below_alloc | apply pw_below_drewN | apply below_drew1 | refine below_set ?_ GE272.out | refine below_set ?_ GE279.out | refine below_set ?_ GE304.out | refine below_set ?_ GE315.out | refine below_set ?_ GE316.out | refine below_set ?_ GE327.out | refine below_set ?_ GE328.out) | exact HB.out)⟩
      ·
       replace c189 := Bool.eq_false_iff.mpr c189
       subst c189
       have H1 : (if 0 < (t307.length : Int) then (if (rdOf ByteArray.empty t307 0).toList = ([110, 101, 119] : List UInt8) then (if 0 < (t319.length : Int) then (if (rdOf ByteArray.empty t319 0).toList = ([110, 101, 119] : List UInt8) then (samphirelaw17_SlotsShare.l0 kj28 (IntKind.u64.wrap (1 + (IntKind.u64.wrap (Int.tmod a0 60)))) (IntKind.u64.wrap (1 + (IntKind.u64.wrap (Int.tmod a1 60)))) t271 t278 (IntKind.u64.wrap (x11_1 + 1)) (IntKind.u64.wrap (x12_1 + 1)) (IntKind.u64.wrap ((IntKind.u64.wrap (1 + (IntKind.u64.wrap (Int.tmod a0 60)))) + (IntKind.u64.wrap (1 + (IntKind.u64.wrap (Int.tmod a1 60)))))) (IntKind.u64.wrap (x56_1 + 1)) t280 t281 t282 t290 t291 t292) else (samphirelaw17_SlotsShare.l0 kj28 (IntKind.u64.wrap (1 + (IntKind.u64.wrap (Int.tmod a0 60)))) (IntKind.u64.wrap (1 + (IntKind.u64.wrap (Int.tmod a1 60)))) t271 t278 (IntKind.u64.wrap (x11_1 + 1)) x12_1 (IntKind.u64.wrap ((IntKind.u64.wrap (1 + (IntKind.u64.wrap (Int.tmod a0 60)))) + (IntKind.u64.wrap (1 + (IntKind.u64.wrap (Int.tmod a1 60)))))) (IntKind.u64.wrap (x56_1 + 1)) t280 t281 t282 t290 t291 t292)) else (none)) else (if 0 < (t319.length : Int) then (if (rdOf ByteArray.empty t319 0).toList = ([110, 101, 119] : List UInt8) then (samphirelaw17_SlotsShare.l0 kj28 (IntKind.u64.wrap (1 + (IntKind.u64.wrap (Int.tmod a0 60)))) (IntKind.u64.wrap (1 + (IntKind.u64.wrap (Int.tmod a1 60)))) t271 t278 x11_1 (IntKind.u64.wrap (x12_1 + 1)) (IntKind.u64.wrap ((IntKind.u64.wrap (1 + (IntKind.u64.wrap (Int.tmod a0 60)))) + (IntKind.u64.wrap (1 + (IntKind.u64.wrap (Int.tmod a1 60)))))) (IntKind.u64.wrap (x56_1 + 1)) t280 t281 t282 t290 t291 t292) else (samphirelaw17_SlotsShare.l0 kj28 (IntKind.u64.wrap (1 + (IntKind.u64.wrap (Int.tmod a0 60)))) (IntKind.u64.wrap (1 + (IntKind.u64.wrap (Int.tmod a1 60)))) t271 t278 x11_1 x12_1 (IntKind.u64.wrap ((IntKind.u64.wrap (1 + (IntKind.u64.wrap (Int.tmod a0 60)))) + (IntKind.u64.wrap (1 + (IntKind.u64.wrap (Int.tmod a1 60)))))) (IntKind.u64.wrap (x56_1 + 1)) t280 t281 t282 t290 t291 t292)) else (none))) else (none)) = some r := by rw [if_neg (show ¬ (false = true) by decide)] at H; exact H
       clear H
       have H := H1
       clear H1
       by_cases c190 : 0 < (t307.length : Int)
       ·
        rw [if_pos c190] at H
        have c190b0 : decide (0 < (t307.length : Int)) = true := decide_eq_true c190
        have c190b1 : decide (0 < t307.length) = true := decide_eq_true (by omega)
        clear c190
        by_cases c191 : (rdOf ByteArray.empty t307 0).toList = ([110, 101, 119] : List UInt8)
        ·
         rw [if_pos c191] at H
         have c191b0 : ((rdOf ByteArray.empty t307 0).toList == ([110, 101, 119] : List UInt8)) = true := beq_iff_eq.mpr c191
         have c191b1 : ((rdOf ByteArray.empty t307 0).toList != ([110, 101, 119] : List UInt8)) = false := bne_eq_false_iff_eq.mpr c191
         clear c191
         by_cases c192 : 0 < (t319.length : Int)
         ·
          rw [if_pos c192] at H
          have c192b0 : decide (0 < (t319.length : Int)) = true := decide_eq_true c192
          have c192b1 : decide (0 < t319.length) = true := decide_eq_true (by omega)
          clear c192
          by_cases c193 : (rdOf ByteArray.empty t319 0).toList = ([110, 101, 119] : List UInt8)
          ·
           rw [if_pos c193] at H
           have c193b0 : ((rdOf ByteArray.empty t319 0).toList == ([110, 101, 119] : List UInt8)) = true := beq_iff_eq.mpr c193
           have c193b1 : ((rdOf ByteArray.empty t319 0).toList != ([110, 101, 119] : List UInt8)) = false := bne_eq_false_iff_eq.mpr c193
           clear c193
           have H' := Aside0.mk H
           clear H
           have hnb194 := NB315_272.out
           have hnc194 := NB272_315.out
           have hnb195 := NB315_279.out
           have hnc195 := NB279_315.out
           have hnb196 := NB315_304.out
           have hnc196 := NB304_315.out
           have hnb197 := NB315_316.out
           have hnc197 := NB316_315.out
           have hnb198 := NB315_327.out
           have hnc198 := NB327_315.out
           have hnb199 := NB315_328.out
           have hnc199 := NB328_315.out
           have hcz200_0 : wc.cell? ⟨gb315, 0, none⟩ = some (.int .i64 t305) := (blk_cell BK315.out 0).trans rfl
           have hcz200_1 : wc.cell? ⟨gb315, 1, none⟩ = some (.int .u64 t306) := (blk_cell BK315.out 1).trans rfl
           have hcz200_2 : wc.cell? ⟨gb315, 2, none⟩ = some (.slice Ao49 t307.length co49) := (blk_cell BK315.out 2).trans rfl
           have hfz200_0 := blk_frozen BK315.out 0
           have hfz200_1 := blk_frozen BK315.out 1
           have hfz200_2 := blk_frozen BK315.out 2
           have p329 : 0 ≤ (0 : Int) := (by omega)
           have q329 : 0 < (t307.length : Int) := of_decide_eq_true (by first | (with_reducible assumption) | assumption)
           obtain ⟨ad329, e329, hx329_0⟩ := Kd.at_string (Kd.V_reads' HO_316002.out).2.2 0 p329 q329
           cases e329
           have qi329 : (0 < t307.length) = True := eq_true (by omega)
           (try rw [show ((0 : Int)).toNat = 0 from rfl] at hx329_0)
           (try rw [Addr.add_zero'] at hx329_0)
           replace p329 := eq_true p329
           replace q329 := eq_true q329
           have hnb201 := NB327_272.out
           have hnc201 := NB272_327.out
           have hnb202 := NB327_279.out
           have hnc202 := NB279_327.out
           have hnb203 := NB327_304.out
           have hnc203 := NB304_327.out
           have hnb204 := NB327_316.out
           have hnc204 := NB316_327.out
           have hnb205 := NB327_328.out
           have hnc205 := NB328_327.out
           have hcz206_0 : wc.cell? ⟨gb327, 0, none⟩ = some (.int .i64 t317) := (blk_cell BK327.out 0).trans rfl
           have hcz206_1 : wc.cell? ⟨gb327, 1, none⟩ = some (.int .u64 t318) := (blk_cell BK327.out 1).trans rfl
           have hcz206_2 : wc.cell? ⟨gb327, 2, none⟩ = some (.slice Ao70 t319.length co70) := (blk_cell BK327.out 2).trans rfl
           have hfz206_0 := blk_frozen BK327.out 0
           have hfz206_1 := blk_frozen BK327.out 1
           have hfz206_2 := blk_frozen BK327.out 2
           have p330 : 0 ≤ (0 : Int) := (by omega)
           have q330 : 0 < (t319.length : Int) := of_decide_eq_true (by first | (with_reducible assumption) | assumption)
           obtain ⟨ad330, e330, hx330_0⟩ := Kd.at_string (Kd.V_reads' HO_328002.out).2.2 0 p330 q330
           cases e330
           have qi330 : (0 < t319.length) = True := eq_true (by omega)
           (try rw [show ((0 : Int)).toNat = 0 from rfl] at hx330_0)
           (try rw [Addr.add_zero'] at hx330_0)
           replace p330 := eq_true p330
           replace q330 := eq_true q330
           go_wp2
           go_roundg kj28
           case measure => have := HK1.out; have := HJ28.out; omega
           case rel => exact ⟨(IntKind.u64.wrap (x11_1 + 1)), (IntKind.u64.wrap (x12_1 + 1)), (IntKind.u64.wrap (x56_1 + 1)), (by first | rfl | (simp; done) | (simp [*]; done)), (by first | rfl | (simp; done) | (simp [*]; done)), (by first | rfl | (simp; done) | (simp [*]; done)), H', ⟨by have := HK1.out; have := HJ28.out; omega⟩, ⟨by (with_reducible repeat (first | apply Kd.V_alloc | apply Kd.V_drewN | apply Kd.V_drew)); exact Kd.V_mono HO_273002.out (fun _ hk => ⟨hk.2.1, hk.2.2.1⟩)⟩, ⟨by (with_reducible repeat (first | apply Kd.V_alloc | apply Kd.V_drewN | apply Kd.V_drew)); exact Kd.V_mono HO_280002.out (fun _ hk => ⟨hk.2.1, hk.2.2.1⟩)⟩, ⟨by (with_reducible repeat (first | refine blk_drewN ?_ _ | refine blk_drew ?_ | refine blk_alloc ?_ _)); exact BK272.out⟩, ⟨by (with_reducible repeat (first | refine blk_drewN ?_ _ | refine blk_drew ?_ | refine blk_alloc ?_ _)); exact BK279.out⟩, ⟨by repeat (first | (with_reducible first | exact HB.out | apply below_alloc | apply pw_below_drewN | apply below_drew1 | refine below_set ?_ GE272.out | refine below_set ?_ GE279.out | refine below_set ?_ GE304.out | refine below_set ?_ GE315.out | refine below_set ?_ GE316.out | refine below_set ?_ GE327.out | refine below_set ?_ GE328.out) | exact HB.out)⟩⟩
          ·
           rw [if_neg c193] at H
           have c193b0 : ((rdOf ByteArray.empty t319 0).toList == ([110, 101, 119] : List UInt8)) = false := beq_eq_false_iff_ne.mpr c193
           have c193b1 : ((rdOf ByteArray.empty t319 0).toList != ([110, 101, 119] : List UInt8)) = true := bne_iff_ne.mpr c193
           have H' := Aside0.mk H
           clear H
           have hnb207 := NB315_272.out
           have hnc207 := NB272_315.out
           have hnb208 := NB315_279.out
           have hnc208 := NB279_315.out
           have hnb209 := NB315_304.out
           have hnc209 := NB304_315.out
           have hnb210 := NB315_316.out
           have hnc210 := NB316_315.out
           have hnb211 := NB315_327.out
           have hnc211 := NB327_315.out
           have hnb212 := NB315_328.out
           have hnc212 := NB328_315.out
           have hcz213_0 : wc.cell? ⟨gb315, 0, none⟩ = some (.int .i64 t305) := (blk_cell BK315.out 0).trans rfl
           have hcz213_1 : wc.cell? ⟨gb315, 1, none⟩ = some (.int .u64 t306) := (blk_cell BK315.out 1).trans rfl
           have hcz213_2 : wc.cell? ⟨gb315, 2, none⟩ = some (.slice Ao49 t307.length co49) := (blk_cell BK315.out 2).trans rfl
           have hfz213_0 := blk_frozen BK315.out 0
           have hfz213_1 := blk_frozen BK315.out 1
           have hfz213_2 := blk_frozen BK315.out 2
           have p329 : 0 ≤ (0 : Int) := (by omega)
           have q329 : 0 < (t307.length : Int) := of_decide_eq_true (by first | (with_reducible assumption) | assumption)
           obtain ⟨ad329, e329, hx329_0⟩ := Kd.at_string (Kd.V_reads' HO_316002.out).2.2 0 p329 q329
           cases e329
           have qi329 : (0 < t307.length) = True := eq_true (by omega)
           (try rw [show ((0 : Int)).toNat = 0 from rfl] at hx329_0)
           (try rw [Addr.add_zero'] at hx329_0)
           replace p329 := eq_true p329
           replace q329 := eq_true q329
           have hnb214 := NB327_272.out
           have hnc214 := NB272_327.out
           have hnb215 := NB327_279.out
           have hnc215 := NB279_327.out
           have hnb216 := NB327_304.out
           have hnc216 := NB304_327.out
           have hnb217 := NB327_316.out
           have hnc217 := NB316_327.out
           have hnb218 := NB327_328.out
           have hnc218 := NB328_327.out
           have hcz219_0 : wc.cell? ⟨gb327, 0, none⟩ = some (.int .i64 t317) := (blk_cell BK327.out 0).trans rfl
           have hcz219_1 : wc.cell? ⟨gb327, 1, none⟩ = some (.int .u64 t318) := (blk_cell BK327.out 1).trans rfl
           have hcz219_2 : wc.cell? ⟨gb327, 2, none⟩ = some (.slice Ao70 t319.length co70) := (blk_cell BK327.out 2).trans rfl
           have hfz219_0 := blk_frozen BK327.out 0
           have hfz219_1 := blk_frozen BK327.out 1
           have hfz219_2 := blk_frozen BK327.out 2
           have p330 : 0 ≤ (0 : Int) := (by omega)
           have q330 : 0 < (t319.length : Int) := of_decide_eq_true (by first | (with_reducible assumption) | assumption)
           obtain ⟨ad330, e330, hx330_0⟩ := Kd.at_string (Kd.V_reads' HO_328002.out).2.2 0 p330 q330
           cases e330
           have qi330 : (0 < t319.length) = True := eq_true (by omega)
           (try rw [show ((0 : Int)).toNat = 0 from rfl] at hx330_0)
           (try rw [Addr.add_zero'] at hx330_0)
           replace p330 := eq_true p330
           replace q330 := eq_true q330
           go_wp2
           go_roundg kj28
           case measure => have := HK1.out; have := HJ28.out; omega
           case rel => exact ⟨(IntKind.u64.wrap (x11_1 + 1)), (x12_1), (IntKind.u64.wrap (x56_1 + 1)), (by first | rfl | (simp; done) | (simp [*]; done)), (by first | rfl | (simp; done) | (simp [*]; done)), (by first | rfl | (simp; done) | (simp [*]; done)), H', ⟨by have := HK1.out; have := HJ28.out; omega⟩, ⟨by (with_reducible repeat (first | apply Kd.V_alloc | apply Kd.V_drewN | apply Kd.V_drew)); exact Kd.V_mono HO_273002.out (fun _ hk => ⟨hk.2.1, hk.2.2.1⟩)⟩, ⟨by (with_reducible repeat (first | apply Kd.V_alloc | apply Kd.V_drewN | apply Kd.V_drew)); exact Kd.V_mono HO_280002.out (fun _ hk => ⟨hk.2.1, hk.2.2.1⟩)⟩, ⟨by (with_reducible repeat (first | refine blk_drewN ?_ _ | refine blk_drew ?_ | refine blk_alloc ?_ _)); exact BK272.out⟩, ⟨by (with_reducible repeat (first | refine blk_drewN ?_ _ | refine blk_drew ?_ | refine blk_alloc ?_ _)); exact BK279.out⟩, ⟨by repeat (first | (with_reducible first | exact HB.out | apply below_alloc | apply pw_below_drewN | apply below_drew1 | refine below_set ?_ GE272.out | refine below_set ?_ GE279.out | refine below_set ?_ GE304.out | refine below_set ?_ GE315.out | refine below_set ?_ GE316.out | refine below_set ?_ GE327.out | refine below_set ?_ GE328.out) | exact HB.out)⟩⟩
         ·
          rw [if_neg c192] at H
          exact absurd H (by simp)
        ·
         rw [if_neg c191] at H
         have c191b0 : ((rdOf ByteArray.empty t307 0).toList == ([110, 101, 119] : List UInt8)) = false := beq_eq_false_iff_ne.mpr c191
         have c191b1 : ((rdOf ByteArray.empty t307 0).toList != ([110, 101, 119] : List UInt8)) = true := bne_iff_ne.mpr c191
         by_cases c220 : 0 < (t319.length : Int)
         ·
          rw [if_pos c220] at H
          have c220b0 : decide (0 < (t319.length : Int)) = true := decide_eq_true c220
          have c220b1 : decide (0 < t319.length) = true := decide_eq_true (by omega)
          clear c220
          by_cases c221 : (rdOf ByteArray.empty t319 0).toList = ([110, 101, 119] : List UInt8)
          ·
           rw [if_pos c221] at H
           have c221b0 : ((rdOf ByteArray.empty t319 0).toList == ([110, 101, 119] : List UInt8)) = true := beq_iff_eq.mpr c221
           have c221b1 : ((rdOf ByteArray.empty t319 0).toList != ([110, 101, 119] : List UInt8)) = false := bne_eq_false_iff_eq.mpr c221
           clear c221
           have H' := Aside0.mk H
           clear H
           have hnb222 := NB315_272.out
           have hnc222 := NB272_315.out
           have hnb223 := NB315_279.out
           have hnc223 := NB279_315.out
           have hnb224 := NB315_304.out
           have hnc224 := NB304_315.out
           have hnb225 := NB315_316.out
           have hnc225 := NB316_315.out
           have hnb226 := NB315_327.out
           have hnc226 := NB327_315.out
           have hnb227 := NB315_328.out
           have hnc227 := NB328_315.out
           have hcz228_0 : wc.cell? ⟨gb315, 0, none⟩ = some (.int .i64 t305) := (blk_cell BK315.out 0).trans rfl
           have hcz228_1 : wc.cell? ⟨gb315, 1, none⟩ = some (.int .u64 t306) := (blk_cell BK315.out 1).trans rfl
           have hcz228_2 : wc.cell? ⟨gb315, 2, none⟩ = some (.slice Ao49 t307.length co49) := (blk_cell BK315.out 2).trans rfl
           have hfz228_0 := blk_frozen BK315.out 0
           have hfz228_1 := blk_frozen BK315.out 1
           have hfz228_2 := blk_frozen BK315.out 2
           have p329 : 0 ≤ (0 : Int) := (by omega)
           have q329 : 0 < (t307.length : Int) := of_decide_eq_true (by first | (with_reducible assumption) | assumption)
           obtain ⟨ad329, e329, hx329_0⟩ := Kd.at_string (Kd.V_reads' HO_316002.out).2.2 0 p329 q329
           cases e329
           have qi329 : (0 < t307.length) = True := eq_true (by omega)
           (try rw [show ((0 : Int)).toNat = 0 from rfl] at hx329_0)
           (try rw [Addr.add_zero'] at hx329_0)
           replace p329 := eq_true p329
           replace q329 := eq_true q329
           have hnb229 := NB327_272.out
           have hnc229 := NB272_327.out
           have hnb230 := NB327_279.out
           have hnc230 := NB279_327.out
           have hnb231 := NB327_304.out
           have hnc231 := NB304_327.out
           have hnb232 := NB327_316.out
           have hnc232 := NB316_327.out
           have hnb233 := NB327_328.out
           have hnc233 := NB328_327.out
           have hcz234_0 : wc.cell? ⟨gb327, 0, none⟩ = some (.int .i64 t317) := (blk_cell BK327.out 0).trans rfl
           have hcz234_1 : wc.cell? ⟨gb327, 1, none⟩ = some (.int .u64 t318) := (blk_cell BK327.out 1).trans rfl
           have hcz234_2 : wc.cell? ⟨gb327, 2, none⟩ = some (.slice Ao70 t319.length co70) := (blk_cell BK327.out 2).trans rfl
           have hfz234_0 := blk_frozen BK327.out 0
           have hfz234_1 := blk_frozen BK327.out 1
           have hfz234_2 := blk_frozen BK327.out 2
           have p331 : 0 ≤ (0 : Int) := (by omega)
           have q331 : 0 < (t319.length : Int) := of_decide_eq_true (by first | (with_reducible assumption) | assumption)
           obtain ⟨ad331, e331, hx331_0⟩ := Kd.at_string (Kd.V_reads' HO_328002.out).2.2 0 p331 q331
           cases e331
           have qi331 : (0 < t319.length) = True := eq_true (by omega)
           (try rw [show ((0 : Int)).toNat = 0 from rfl] at hx331_0)
           (try rw [Addr.add_zero'] at hx331_0)
           replace p331 := eq_true p331
           replace q331 := eq_true q331
           go_wp2
           go_roundg kj28
           case measure => have := HK1.out; have := HJ28.out; omega
           case rel => exact ⟨(x11_1), (IntKind.u64.wrap (x12_1 + 1)), (IntKind.u64.wrap (x56_1 + 1)), (by first | rfl | (simp; done) | (simp [*]; done)), (by first | rfl | (simp; done) | (simp [*]; done)), (by first | rfl | (simp; done) | (simp [*]; done)), H', ⟨by have := HK1.out; have := HJ28.out; omega⟩, ⟨by (with_reducible repeat (first | apply Kd.V_alloc | apply Kd.V_drewN | apply Kd.V_drew)); exact Kd.V_mono HO_273002.out (fun _ hk => ⟨hk.2.1, hk.2.2.1⟩)⟩, ⟨by (with_reducible repeat (first | apply Kd.V_alloc | apply Kd.V_drewN | apply Kd.V_drew)); exact Kd.V_mono HO_280002.out (fun _ hk => ⟨hk.2.1, hk.2.2.1⟩)⟩, ⟨by (with_reducible repeat (first | refine blk_drewN ?_ _ | refine blk_drew ?_ | refine blk_alloc ?_ _)); exact BK272.out⟩, ⟨by (with_reducible repeat (first | refine blk_drewN ?_ _ | refine blk_drew ?_ | refine blk_alloc ?_ _)); exact BK279.out⟩, ⟨by repeat (first | (with_reducible first | exact HB.out | apply below_alloc | apply pw_below_drewN | apply below_drew1 | refine below_set ?_ GE272.out | refine below_set ?_ GE279.out | refine below_set ?_ GE304.out | refine below_set ?_ GE315.out | refine below_set ?_ GE316.out | refine below_set ?_ GE327.out | refine below_set ?_ GE328.out) | exact HB.out)⟩⟩
          ·
           rw [if_neg c221] at H
           have c221b0 : ((rdOf ByteArray.empty t319 0).toList == ([110, 101, 119] : List UInt8)) = false := beq_eq_false_iff_ne.mpr c221
           have c221b1 : ((rdOf ByteArray.empty t319 0).toList != ([110, 101, 119] : List UInt8)) = true := bne_iff_ne.mpr c221
           have H' := Aside0.mk H
           clear H
           have hnb235 := NB315_272.out
           have hnc235 := NB272_315.out
           have hnb236 := NB315_279.out
           have hnc236 := NB279_315.out
           have hnb237 := NB315_304.out
           have hnc237 := NB304_315.out
           have hnb238 := NB315_316.out
           have hnc238 := NB316_315.out
           have hnb239 := NB315_327.out
           have hnc239 := NB327_315.out
           have hnb240 := NB315_328.out
           have hnc240 := NB328_315.out
           have hcz241_0 : wc.cell? ⟨gb315, 0, none⟩ = some (.int .i64 t305) := (blk_cell BK315.out 0).trans rfl
           have hcz241_1 : wc.cell? ⟨gb315, 1, none⟩ = some (.int .u64 t306) := (blk_cell BK315.out 1).trans rfl
           have hcz241_2 : wc.cell? ⟨gb315, 2, none⟩ = some (.slice Ao49 t307.length co49) := (blk_cell BK315.out 2).trans rfl
           have hfz241_0 := blk_frozen BK315.out 0
           have hfz241_1 := blk_frozen BK315.out 1
           have hfz241_2 := blk_frozen BK315.out 2
           have p329 : 0 ≤ (0 : Int) := (by omega)
           have q329 : 0 < (t307.length : Int) := of_decide_eq_true (by first | (with_reducible assumption) | assumption)
           obtain ⟨ad329, e329, hx329_0⟩ := Kd.at_string (Kd.V_reads' HO_316002.out).2.2 0 p329 q329
           cases e329
           have qi329 : (0 < t307.length) = True := eq_true (by omega)
           (try rw [show ((0 : Int)).toNat = 0 from rfl] at hx329_0)
           (try rw [Addr.add_zero'] at hx329_0)
           replace p329 := eq_true p329
           replace q329 := eq_true q329
           have hnb242 := NB327_272.out
           have hnc242 := NB272_327.out
           have hnb243 := NB327_279.out
           have hnc243 := NB279_327.out
           have hnb244 := NB327_304.out
           have hnc244 := NB304_327.out
           have hnb245 := NB327_316.out
           have hnc245 := NB316_327.out
           have hnb246 := NB327_328.out
           have hnc246 := NB328_327.out
           have hcz247_0 : wc.cell? ⟨gb327, 0, none⟩ = some (.int .i64 t317) := (blk_cell BK327.out 0).trans rfl
           have hcz247_1 : wc.cell? ⟨gb327, 1, none⟩ = some (.int .u64 t318) := (blk_cell BK327.out 1).trans rfl
           have hcz247_2 : wc.cell? ⟨gb327, 2, none⟩ = some (.slice Ao70 t319.length co70) := (blk_cell BK327.out 2).trans rfl
           have hfz247_0 := blk_frozen BK327.out 0
           have hfz247_1 := blk_frozen BK327.out 1
           have hfz247_2 := blk_frozen BK327.out 2
           have p331 : 0 ≤ (0 : Int) := (by omega)
           have q331 : 0 < (t319.length : Int) := of_decide_eq_true (by first | (with_reducible assumption) | assumption)
           obtain ⟨ad331, e331, hx331_0⟩ := Kd.at_string (Kd.V_reads' HO_328002.out).2.2 0 p331 q331
           cases e331
           have qi331 : (0 < t319.length) = True := eq_true (by omega)
           (try rw [show ((0 : Int)).toNat = 0 from rfl] at hx331_0)
           (try rw [Addr.add_zero'] at hx331_0)
           replace p331 := eq_true p331
           replace q331 := eq_true q331
           go_wp2
           go_roundg kj28
           case measure => have := HK1.out; have := HJ28.out; omega
           case rel => exact ⟨(x11_1), (x12_1), (IntKind.u64.wrap (x56_1 + 1)), (by first | rfl | (simp; done) | (simp [*]; done)), (by first | rfl | (simp; done) | (simp [*]; done)), (by first | rfl | (simp; done) | (simp [*]; done)), H', ⟨by have := HK1.out; have := HJ28.out; omega⟩, ⟨by (with_reducible repeat (first | apply Kd.V_alloc | apply Kd.V_drewN | apply Kd.V_drew)); exact Kd.V_mono HO_273002.out (fun _ hk => ⟨hk.2.1, hk.2.2.1⟩)⟩, ⟨by (with_reducible repeat (first | apply Kd.V_alloc | apply Kd.V_drewN | apply Kd.V_drew)); exact Kd.V_mono HO_280002.out (fun _ hk => ⟨hk.2.1, hk.2.2.1⟩)⟩, ⟨by (with_reducible repeat (first | refine blk_drewN ?_ _ | refine blk_drew ?_ | refine blk_alloc ?_ _)); exact BK272.out⟩, ⟨by (with_reducible repeat (first | refine blk_drewN ?_ _ | refine blk_drew ?_ | refine blk_alloc ?_ _)); exact BK279.out⟩, ⟨by repeat (first | (with_reducible first | exact HB.out | apply below_alloc | apply pw_below_drewN | apply below_drew1 | refine below_set ?_ GE272.out | refine below_set ?_ GE279.out | refine below_set ?_ GE304.out | refine below_set ?_ GE315.out | refine below_set ?_ GE316.out | refine below_set ?_ GE327.out | refine below_set ?_ GE328.out) | exact HB.out)⟩⟩
         ·
          rw [if_neg c220] at H
          exact absurd H (by simp)
       ·
        rw [if_neg c190] at H
        exact absurd H (by simp)
   ·
    rw [if_neg c26] at H
    have c26b0 : decide (x56_1 < (IntKind.u64.wrap ((IntKind.u64.wrap (1 + (IntKind.u64.wrap (Int.tmod a0 60)))) + (IntKind.u64.wrap (1 + (IntKind.u64.wrap (Int.tmod a1 60))))))) = false := decide_eq_false c26
    clear c26
    by_cases c248 : t271 = 0
    ·
     rw [if_pos c248] at H
     have c248b0 : (t271 == 0) = true := beq_iff_eq.mpr c248
     have c248b1 : (t271 != 0) = false := bne_eq_false_iff_eq.mpr c248
     clear c248
     by_cases c249 : t278 = 0
     ·
      rw [if_pos c249] at H
      have c249b0 : (t278 == 0) = true := beq_iff_eq.mpr c249
      have c249b1 : (t278 != 0) = false := bne_eq_false_iff_eq.mpr c249
      clear c249
      by_cases c250 : x11_1 = (IntKind.u64.wrap (1 + (IntKind.u64.wrap (Int.tmod a1 60))))
      ·
       rw [if_pos c250] at H
       have c250b0 : (x11_1 == (IntKind.u64.wrap (1 + (IntKind.u64.wrap (Int.tmod a1 60))))) = true := beq_iff_eq.mpr c250
       have c250b1 : (x11_1 != (IntKind.u64.wrap (1 + (IntKind.u64.wrap (Int.tmod a1 60))))) = false := bne_eq_false_iff_eq.mpr c250
       clear c250
       by_cases c251 : x12_1 = (IntKind.u64.wrap (1 + (IntKind.u64.wrap (Int.tmod a1 60))))
       ·
        rw [if_pos c251] at H
        have c251b0 : (x12_1 == (IntKind.u64.wrap (1 + (IntKind.u64.wrap (Int.tmod a1 60))))) = true := beq_iff_eq.mpr c251
        have c251b1 : (x12_1 != (IntKind.u64.wrap (1 + (IntKind.u64.wrap (Int.tmod a1 60))))) = false := bne_eq_false_iff_eq.mpr c251
        clear c251
        replace H := Option.bind_eq_some_iff.mp H
        obtain ⟨t300, A2520, H⟩ := H
        replace H : (some t300) = some r := H
        have A252 := Aside0.mk A2520
        clear A2520
        obtain rfl := Option.some.inj H
        go_wp2_with (first | (go_at_call 9; (with_reducible refine (samphirelaw17_awake.calls k1  t300 _ A252.out).mono ?_); rintro e w253 ⟨rfl, hb⟩; have n0_ := Aside0.mk (Kd.V_below (by (with_reducible repeat (first | apply Kd.V_alloc | apply Kd.V_drewN | apply Kd.V_drew)); exact HO_273002.out) hb); have n1_ := Aside0.mk (Kd.V_below (by (with_reducible repeat (first | apply Kd.V_alloc | apply Kd.V_drewN | apply Kd.V_drew)); exact HO_280002.out) hb); have n2_ := Aside0.mk (blk_below (g := gb272) (o := .cells #[.int .i64 t280, .int .u64 t281, .slice Ao20 t282.length co20] 27 (0, 0)) (by (with_reducible repeat (first | refine blk_drewN ?_ _ | refine blk_drew ?_ | refine blk_alloc ?_ _)); exact BK272.out) hb); have n3_ := Aside0.mk (blk_below (g := gb279) (o := .cells #[.int .i64 t290, .int .u64 t291, .slice Ao25 t292.length co25] 27 (0, 0)) (by (with_reducible repeat (first | refine blk_drewN ?_ _ | refine blk_drew ?_ | refine blk_alloc ?_ _)); exact BK279.out) hb); have n4_ := Aside0.mk (below_step (by repeat (first | (with_reducible first | exact HB.out | apply below_alloc | apply pw_below_drewN | apply below_drew1 | refine below_set ?_ GE272.out | refine below_set ?_ GE279.out) | exact HB.out)) hb); clear HO_273002; clear HO_280002; clear BK272; clear BK279; clear HB; have HO_273002 := n0_; have HO_280002 := n1_; have BK272 := n2_; have BK279 := n3_; have HB := n4_; clear n0_ n1_ n2_ n3_ n4_; (try clear hb); (try clear hb2); (try clear hk); (try clear hi)))
        go_ret
        exact ⟨by first | rfl | (simp [errW_none, errW_some] <;> rfl) | (simp [*, errW_none, errW_some] <;> rfl), by repeat (first | (with_reducible first | exact HB.out | apply below_alloc | apply pw_below_drewN | apply below_drew1 | refine below_set ?_ GE272.out | refine below_set ?_ GE279.out) | exact HB.out)⟩
       ·
        rw [if_neg c251] at H
        exact absurd H (by simp)
      ·
       rw [if_neg c250] at H
       exact absurd H (by simp)
     ·
      rw [if_neg c249] at H
      exact absurd H (by simp)
    ·
     rw [if_neg c248] at H
     exact absurd H (by simp)

/-- THE ONE PURE STATEMENT of samphirelaw17_SlotsShare: yours. -/
def samphirelaw17_SlotsShare.Pure : Prop := ∀ (a0 : Int) (a1 : Int), (Lit.int .u8 a0).wf = true → (Lit.int .u8 a1).wf = true → ∃ k, samphirelaw17_SlotsShare.f k a0 a1 = some true
theorem samphirelaw17_SlotsShare.walk (P : samphirelaw17_SlotsShare.Pure) (a0 : Int) (a1 : Int) (w : World) (w0 : (Lit.int .u8 a0).wf = true) (w1 : (Lit.int .u8 a1).wf = true) :
  Calls Try.prog 6 #[.int .u8 a0, .int .u8 a1] w fun e w' => e = .returned (.bool true) ∧ Below w.heap.size w w' := by
 obtain ⟨k, h⟩ := P a0 a1 w0 w1
 refine (samphirelaw17_SlotsShare.calls k a0 a1 true w h).mono ?_
 rintro e w' ⟨rfl, hd⟩
 exact ⟨rfl, hd⟩

end Go.Proofs.Ytabfaoghacamlaa.Q
