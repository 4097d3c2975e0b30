/- The walk of the law ReserveHolds: the law's own state. -/
import Derived.Test.YthgacimoifbhiaaHoldsF
namespace Go.Proofs.Ythgacimoifbhiaa
open Go.RowKit Go.Proofs.Ythgacimoifbhiaa.Q Go.Proofs.YthgacimoifbhiaaW.PrintWords Go.Proofs.YthgacimoifbhiaaW.PrintLast Go.Proofs.YthgacimoifbhiaaW.PrintMore
set_option linter.unusedVariables false
set_option linter.unusedSimpArgs false
/-- The law's state between two keys. -/
structure Stt where
  na : Int
  la : List ByteArray
  nb : Int
  lb : List ByteArray
  p : Int
def Stt.sel (t : Stt) (b : Bool) : Int × List ByteArray := if b then (t.nb, t.lb) else (t.na, t.la)
def Stt.upd (t : Stt) (b : Bool) (n : Int) (l : List ByteArray) (p : Int) : Stt := if b then ⟨t.na, t.la, n, l, p⟩ else ⟨n, l, t.nb, t.lb, p⟩
/-- A sample of which the law asks all that it asks. -/
def Good (kf : Nat) (n : Int) (LM : List ByteArray) (K N : Int) (X : List ByteArray) : Prop :=
  reserve_Right.f K N X = some true ∧ (X.length : Int) = min n (wrap64 N) ∧ ∀ x ∈ X, ∃ c d, samphireref16_Count.f kf X x = some c ∧ samphireref16_Count.f kf LM x = some d ∧ c ≤ d
/-- Blocks that are none of the law's own. -/
def Fr (ga gb gw : Nat) (va : Value) (k : Nat) : Prop := k ≠ ga ∧ k ≠ gb ∧ k ≠ gw ∧ some k ≠ va.ownBlock
structure Hd (w0 w : World) (ga gb gw : Nat) (G : Nat → Prop) (n : Int) (t : Stt) (va vt : Value) (all LM : List ByteArray) (l : List Int) (Aa : Option Addr) (ca : Nat) (Ab : Option Addr) (cb : Nat) (Aw : Option Addr) (cw : Nat) : Prop where
  a : w.heap[ga]? = some (sampleO n t.na (.slice Aa t.la.length ca))
  b : w.heap[gb]? = some (sampleO n t.nb (.slice Ab t.lb.length cb))
  o : w.heap[gw]? = some (wordsO (.slice Aw l.length cw) t.p)
  ra : Kd.V Kd.string 9 w 0 (Fr ga gb gw va) (.slice Aa t.la.length ca) t.la
  rb : Kd.V Kd.string 9 w 0 (Fr ga gb gw va) (.slice Ab t.lb.length cb) t.lb
  rw : Kd.V (Kd.int .u64) 23 w 0 (Fr ga gb gw va) (.slice Aw l.length cw) l
  all : Kd.R Kd.string 9 w w0.heap.size (fun k => w0.heap.size ≤ k) va all
  lm : Kd.R Kd.string 9 w w0.heap.size G vt LM
  sep : ∀ k, G k → Fr ga gb gw va k ∧ k < w.heap.size
  own : va.ownBlock ≠ some ga ∧ va.ownBlock ≠ some gb ∧ va.ownBlock ≠ some gw
  ne : ga ≠ gb ∧ ga ≠ gw ∧ gb ≠ gw
  lo : w0.heap.size ≤ ga ∧ w0.heap.size ≤ gb ∧ w0.heap.size ≤ gw
  bel : Below w0.heap.size w0 w
theorem V_base {α : Type} {d : Kd α} {e b : Nat} {w : World} {ok : Nat → Prop} {v : Value} {xs : List α} (b2 : Nat) (h : Kd.V d e w b ok v xs) : Kd.V d e w b2 ok v xs := Kd.V_map h (fun _ h => h)
theorem held18 {W w' : World} {gs gt gw : Nat} {n N : Int} {u v : Value} {x y : Value} {p q : Int} (h1 : W.heap[gs]? = some (sampleO n N u)) (h2 : W.heap[gt]? = some (sampleO n N v)) (h3 : W.heap[gt + 1]? = some (wordsO x p)) (h4 : W.heap[gw]? = some (wordsO y q)) (h : Below W.heap.size W w') :
    w'.cell? ⟨gs, 0, none⟩ = some (.int .i64 n) ∧ w'.cell? ⟨gs, 1, none⟩ = some (.int .u64 N) ∧ w'.cell? ⟨gs, 2, none⟩ = some u ∧ w'.cell? ⟨gt, 0, none⟩ = some (.int .i64 n) ∧ w'.cell? ⟨gt, 1, none⟩ = some (.int .u64 N) ∧ w'.cell? ⟨gt, 2, none⟩ = some v ∧ w'.cell? ⟨gt + 1, 1, none⟩ = some (.int .i64 p) ∧ w'.cell? ⟨gw, 1, none⟩ = some (.int .i64 q) ∧ Below W.heap.size W w' :=
  ⟨(blk_cell (blk_below h1 h) 0).trans rfl, (blk_cell (blk_below h1 h) 1).trans rfl, (blk_cell (blk_below h1 h) 2).trans rfl, (blk_cell (blk_below h2 h) 0).trans rfl, (blk_cell (blk_below h2 h) 1).trans rfl, (blk_cell (blk_below h2 h) 2).trans rfl, (blk_cell (blk_below h3 h) 1).trans rfl, (blk_cell (blk_below h4 h) 1).trans rfl, h⟩
theorem upd_p (t : Stt) (b : Bool) (N : Int) (X : List ByteArray) (q p : Int) : ({ t.upd b N X q with p := p } : Stt) = t.upd b N X p := by cases b <;> rfl
theorem take_next (LM : List ByteArray) (j : Nat) (h : j < LM.length) : LM.take j ++ [LM.getD j ByteArray.empty] = LM.take (j + 1) := by
  rw [List.take_succ_eq_append_getElem h, List.getD_eq_getElem?_getD, List.getElem?_eq_getElem h]; rfl
section
variable {w0 w w1 : World} {ga gb gw : Nat} {G : Nat → Prop} {n : Int} {t : Stt} {va vt : Value} {all LM : List ByteArray} {l : List Int} {Aa Ab Aw : Option Addr} {ca cb cw : Nat}
theorem Hd.below (h : Hd w0 w ga gb gw G n t va vt all LM l Aa ca Ab cb Aw cw) (hb : Below w.heap.size w w1) : Hd w0 w1 ga gb gw G n t va vt all LM l Aa ca Ab cb Aw cw :=
  ⟨blk_below h.a hb, blk_below h.b hb, blk_below h.o hb, Kd.V_below h.ra hb, Kd.V_below h.rb hb, Kd.V_below h.rw hb, Kd.R_below h.all hb, Kd.R_below h.lm hb, fun k hk => ⟨(h.sep k hk).1, Nat.lt_of_lt_of_le (h.sep k hk).2 hb.size⟩, h.own, h.ne, h.lo, below_step h.bel hb⟩
theorem Hd.fresh (h : Hd w0 w ga gb gw G n t va vt all LM l Aa ca Ab cb Aw cw) {k : Nat} (hk : w.heap.size ≤ k) : Fr ga gb gw va k := by
  have h1 := blk_lt h.a
  have h2 := blk_lt h.b
  have h3 := blk_lt h.o
  refine ⟨by omega, by omega, by omega, fun e => ?_⟩
  have := Kd.R_lt h.all k e.symm
  omega
theorem Hd.seta (h : Hd w0 w ga gb gw G n t va vt all LM l Aa ca Ab cb Aw cw) {N : Int} {X : List ByteArray} {A : Option Addr} {c : Nat} (hv : Kd.V Kd.string 9 w 0 (Fr ga gb gw va) (.slice A X.length c) X) :
    Hd w0 (((w.setCell ⟨ga, 0, none⟩ (.int .i64 n)).setCell ⟨ga, 1, none⟩ (.int .u64 N)).setCell ⟨ga, 2, none⟩ (.slice A X.length c)) ga gb gw G n (t.upd false N X t.p) va vt all LM l A c Ab cb Aw cw := by
  have f1 : ∀ k, Fr ga gb gw va k → k ≠ ga := fun k hk => hk.1
  have hg : ∀ k, G k → k ≠ ga := fun k hk => (h.sep k hk).1.1
  have hs : (((w.setCell ⟨ga, 0, none⟩ (.int .i64 n)).setCell ⟨ga, 1, none⟩ (.int .u64 N)).setCell ⟨ga, 2, none⟩ (.slice A X.length c)).heap.size = w.heap.size := by simp [World.setCell]
  have ha : ∀ k, va.ownBlock = some k → k ≠ ga := fun k hk e => h.own.1 (by rw [hk, e])
  have hal := Kd.R_tight2 rfl h.all
  refine ⟨put26 h.a _ _ _, blk_far (blk_far (blk_far h.b h.ne.1.symm _) h.ne.1.symm _) h.ne.1.symm _, blk_far (blk_far (blk_far h.o h.ne.2.1.symm _) h.ne.2.1.symm _) h.ne.2.1.symm _, Kd.V_far (Kd.V_far (Kd.V_far hv f1 _) f1 _) f1 _, Kd.V_far (Kd.V_far (Kd.V_far h.rb f1 _) f1 _) f1 _, Kd.V_far (Kd.V_far (Kd.V_far h.rw f1 _) f1 _) f1 _, ?_, Kd.R_far (Kd.R_far (Kd.R_far h.lm hg _) hg _) hg _, fun k hk => ⟨(h.sep k hk).1, by rw [hs]; exact (h.sep k hk).2⟩, h.own, h.ne, h.lo, ((h.bel.setCell h.lo.1 _).setCell h.lo.1 _).setCell h.lo.1 _⟩
  have q : ∀ k, (some k = va.ownBlock ∧ w0.heap.size ≤ k) → k ≠ ga := fun k hk => ha k hk.1.symm
  exact Kd.R_mono (Kd.R_far (Kd.R_far (Kd.R_far hal q _) q _) q _) (fun k hk => hk.2)
theorem Hd.setb (h : Hd w0 w ga gb gw G n t va vt all LM l Aa ca Ab cb Aw cw) {N : Int} {X : List ByteArray} {A : Option Addr} {c : Nat} (hv : Kd.V Kd.string 9 w 0 (Fr ga gb gw va) (.slice A X.length c) X) :
    Hd w0 (((w.setCell ⟨gb, 0, none⟩ (.int .i64 n)).setCell ⟨gb, 1, none⟩ (.int .u64 N)).setCell ⟨gb, 2, none⟩ (.slice A X.length c)) ga gb gw G n (t.upd true N X t.p) va vt all LM l Aa ca A c Aw cw := by
  have f1 : ∀ k, Fr ga gb gw va k → k ≠ gb := fun k hk => hk.2.1
  have hg : ∀ k, G k → k ≠ gb := fun k hk => (h.sep k hk).1.2.1
  have hs : (((w.setCell ⟨gb, 0, none⟩ (.int .i64 n)).setCell ⟨gb, 1, none⟩ (.int .u64 N)).setCell ⟨gb, 2, none⟩ (.slice A X.length c)).heap.size = w.heap.size := by simp [World.setCell]
  have ha : ∀ k, va.ownBlock = some k → k ≠ gb := fun k hk e => h.own.2.1 (by rw [hk, e])
  have hal := Kd.R_tight2 rfl h.all
  refine ⟨blk_far (blk_far (blk_far h.a h.ne.1 _) h.ne.1 _) h.ne.1 _, put26 h.b _ _ _, blk_far (blk_far (blk_far h.o h.ne.2.2.symm _) h.ne.2.2.symm _) h.ne.2.2.symm _, Kd.V_far (Kd.V_far (Kd.V_far h.ra f1 _) f1 _) f1 _, Kd.V_far (Kd.V_far (Kd.V_far hv f1 _) f1 _) f1 _, Kd.V_far (Kd.V_far (Kd.V_far h.rw f1 _) f1 _) f1 _, ?_, Kd.R_far (Kd.R_far (Kd.R_far h.lm hg _) hg _) hg _, fun k hk => ⟨(h.sep k hk).1, by rw [hs]; exact (h.sep k hk).2⟩, h.own, h.ne, h.lo, ((h.bel.setCell h.lo.2.1 _).setCell h.lo.2.1 _).setCell h.lo.2.1 _⟩
  have q : ∀ k, (some k = va.ownBlock ∧ w0.heap.size ≤ k) → k ≠ gb := fun k hk => ha k hk.1.symm
  exact Kd.R_mono (Kd.R_far (Kd.R_far (Kd.R_far hal q _) q _) q _) (fun k hk => hk.2)
theorem Hd.setw (h : Hd w0 w ga gb gw G n t va vt all LM l Aa ca Ab cb Aw cw) {A : Option Addr} {c : Nat} {p : Int} (hv : Kd.V (Kd.int .u64) 23 w 0 (Fr ga gb gw va) (.slice A l.length c) l) :
    Hd w0 ((w.setCell ⟨gw, 0, none⟩ (.slice A l.length c)).setCell ⟨gw, 1, none⟩ (.int .i64 p)) ga gb gw G n { t with p := p } va vt all LM l Aa ca Ab cb A c := by
  have f1 : ∀ k, Fr ga gb gw va k → k ≠ gw := fun k hk => hk.2.2.1
  have hg : ∀ k, G k → k ≠ gw := fun k hk => (h.sep k hk).1.2.2.1
  have hs : ((w.setCell ⟨gw, 0, none⟩ (.slice A l.length c)).setCell ⟨gw, 1, none⟩ (.int .i64 p)).heap.size = w.heap.size := by simp [World.setCell]
  have ha : ∀ k, va.ownBlock = some k → k ≠ gw := fun k hk e => h.own.2.2 (by rw [hk, e])
  have hal := Kd.R_tight2 rfl h.all
  refine ⟨blk_far (blk_far h.a h.ne.2.1 _) h.ne.2.1 _, blk_far (blk_far h.b h.ne.2.2 _) h.ne.2.2 _, put32 h.o _ _, Kd.V_far (Kd.V_far h.ra f1 _) f1 _, Kd.V_far (Kd.V_far h.rb f1 _) f1 _, Kd.V_far (Kd.V_far hv f1 _) f1 _, ?_, Kd.R_far (Kd.R_far h.lm hg _) hg _, fun k hk => ⟨(h.sep k hk).1, by rw [hs]; exact (h.sep k hk).2⟩, h.own, h.ne, h.lo, (h.bel.setCell h.lo.2.2 _).setCell h.lo.2.2 _⟩
  have q : ∀ k, (some k = va.ownBlock ∧ w0.heap.size ≤ k) → k ≠ gw := fun k hk => ha k hk.1.symm
  exact Kd.R_mono (Kd.R_far (Kd.R_far hal q _) q _) (fun k hk => hk.2)
theorem Hd.grown (h : Hd w0 w ga gb gw G n t va vt all LM l Aa ca Ab cb Aw cw) {v2 : Value} {all2 : List ByteArray} (hR : Kd.R Kd.string 9 w1 w0.heap.size (fun k => w0.heap.size ≤ k) v2 all2) (hb : Below w0.heap.size w0 w1) (hg : w.grownBy w1 va.ownBlock)
    (hat : v2.ownBlock = va.ownBlock ∨ ∃ b, v2.ownBlock = some b ∧ w.heap.size ≤ b) : Hd w0 w1 ga gb gw G n t v2 vt all2 LM l Aa ca Ab cb Aw cw := by
  have na : ∀ k, Fr ga gb gw va k → some k ≠ va.ownBlock := fun k hk => hk.2.2.2
  have h1 := blk_lt h.a
  have h2 := blk_lt h.b
  have h3 := blk_lt h.o
  have up : ∀ k, Fr ga gb gw va k ∧ k < w.heap.size → Fr ga gb gw v2 k := by
    intro k hk
    refine ⟨hk.1.1, hk.1.2.1, hk.1.2.2.1, fun e => ?_⟩
    rcases hat with e2 | ⟨b, e2, e3⟩
    · exact hk.1.2.2.2 (by rw [e, e2])
    · rw [e2] at e
      injection e with e
      have := hk.2
      omega
  have ow : ∀ g, va.ownBlock ≠ some g → g < w.heap.size → v2.ownBlock ≠ some g := by
    intro g hg hl e
    rcases hat with e2 | ⟨b, e2, e3⟩
    · exact hg (by rw [← e2, e])
    · rw [e2] at e
      injection e with e
      omega
  have na2 : ∀ k, (Fr ga gb gw va k ∧ k < w.heap.size) → some k ≠ va.ownBlock := fun k hk => hk.1.2.2.2
  exact ⟨blk_grown h.a hg (fun e => h.own.1 e.symm), blk_grown h.b hg (fun e => h.own.2.1 e.symm), blk_grown h.o hg (fun e => h.own.2.2 e.symm), Kd.V_mono (Kd.V_grown (Kd.V_bound h.ra) hg na2) up, Kd.V_mono (Kd.V_grown (Kd.V_bound h.rb) hg na2) up, Kd.V_mono (Kd.V_grown (Kd.V_bound h.rw) hg na2) up, hR,
    Kd.R_grown h.lm hg (fun k hk => (h.sep k hk).1.2.2.2), fun k hk => ⟨up k (h.sep k hk), Nat.lt_of_lt_of_le (h.sep k hk).2 hg.size⟩, ⟨ow _ h.own.1 h1, ow _ h.own.2.1 h2, ow _ h.own.2.2 h3⟩, h.ne, h.lo, hb⟩
end
end Go.Proofs.Ythgacimoifbhiaa
