/-
  The walk of accrual.exact, the rest.
  The walk of lot.Total.
  The iterator of accrual.amounts: it gives the exact amortizations of the lots of an instrument.
  The walk of accrual.sum over the amounts.
  The walks of accrual.check, checkOne, Amortized, Total, Book on what is valid. (Printed by gen_acc6.py.)
  The walk of accrual.Total on what is valid. (Printed by gen_acc6.py.)
  The walk of accrual.Book on what is valid. (Printed by gen_acc6.py.)
-/
import Derived.Test.YtbkmhmaldljgmaaGreatDoorC16
set_option linter.unusedVariables false
set_option linter.unusedSimpArgs false
set_option maxHeartbeats 16000000
set_option maxRecDepth 100000
namespace Go.Proofs.YtbkmhmaldljgmaaGreatDoor
open Go.RowKit Tr Go.Shelf
def FBox (W : World) (B : Nat) (q : Rat) : Prop := W.heap[B]? = some (.cells #[.string (I q.num), .string (dn q)] 25 (0, 0))
theorem FBox.below {W W' : World} {B : Nat} {q : Rat} (h : FBox W B q) (hb : Below W.heap.size W W') : FBox W' B q := (hb.block B (Array.getElem?_eq_some_iff.1 h).1).trans h
theorem FBox.lt {W : World} {B : Nat} {q : Rat} (h : FBox W B q) : B < W.heap.size := (Array.getElem?_eq_some_iff.1 h).1
def E4 (w : World) (i : Inst) (l : Lot) (wn : World) : Prop := wn.cell? ⟨w.heap.size, 6, none⟩ = some (.string i.fn) ∧ wn.cell? ⟨w.heap.size, 7, none⟩ = some (.string i.fd) ∧ wn.cell? ⟨w.heap.size + 1, 4, none⟩ = some (.string l.qty) ∧ wn.cell? ⟨w.heap.size + 1, 5, none⟩ = some (.string l.cost)
theorem EG.four {w : World} {i : Inst} {l : Lot} {W : World} (h : EG w i l W) : E4 w i l W :=
 ⟨Lib.cell_of_heap h.ib 6, Lib.cell_of_heap h.ib 7, Lib.cell_of_heap h.lb 4, Lib.cell_of_heap h.lb 5⟩
theorem EG.lt {w : World} {i : Inst} {l : Lot} {W : World} (h : EG w i l W) : w.heap.size + 1 + 1 < W.heap.size := (Array.getElem?_eq_some_iff.1 h.rb).1
theorem EG.ne1 {w : World} {i : Inst} {l : Lot} {W : World} (h : EG w i l W) : W.heap.size ≠ w.heap.size := by have := h.lt; omega
theorem EG.ne2 {w : World} {i : Inst} {l : Lot} {W : World} (h : EG w i l W) : W.heap.size ≠ w.heap.size + 1 := by have := h.lt; omega
theorem EG.set2 {w : World} {i : Inst} {l : Lot} {W : World} (h : EG w i l W) {B : Nat} (hB : w.heap.size + 1 + 1 < B) (x y : Value) : EG w i l ((W.setCell ⟨B, 0, none⟩ x).setCell ⟨B, 1, none⟩ y) := by
 have k : ∀ b, b ≤ w.heap.size + 1 + 1 → ((W.setCell ⟨B, 0, none⟩ x).setCell ⟨B, 1, none⟩ y).heap[b]? = W.heap[b]? := fun b hb =>
  (Below.heap_setCell _ _ _ _ (by simp; omega)).trans (Below.heap_setCell _ _ _ _ (by simp; omega))
 exact ⟨(k _ (by omega)).trans h.ib, (k _ (by omega)).trans h.lb, (k _ (by omega)).trans h.rb, (h.be.setCell (p := ⟨B, 0, none⟩) (by simp; omega) _).setCell (p := ⟨B, 1, none⟩) (by simp; omega) _⟩
theorem EG.calls {w : World} {i : Inst} {l : Lot} {f : Nat} {args : Array Value} {v : Value} (ht : Tabs w) (h : ∀ W, Tabs W → Calls Tryz.prog f args W fun e w' => e = .returned v ∧ Below W.heap.size W w') :
 ∀ W, EG w i l W → Calls Tryz.prog f args W fun e wn => e = .returned v ∧ EG w i l wn ∧ Below W.heap.size W wn ∧ wn.cell? ⟨w.heap.size, 6, none⟩ = some (.string i.fn) ∧ wn.cell? ⟨w.heap.size, 7, none⟩ = some (.string i.fd) ∧ wn.cell? ⟨w.heap.size + 1, 4, none⟩ = some (.string l.qty) ∧ wn.cell? ⟨w.heap.size + 1, 5, none⟩ = some (.string l.cost) := by
 intro W hG
 refine (h W (ht.below hG.be)).mono ?_
 rintro e wn ⟨rfl, bn⟩
 exact ⟨rfl, hG.below bn, bn, (hG.below bn).four⟩
structure EF (w : World) (i : Inst) (l : Lot) (B : Nat) (q : Rat) (W : World) : Prop where
 eg : EG w i l W
 fb : FBox W B q
 lt : w.heap.size + 1 + 1 < B
theorem EF.below {w : World} {i : Inst} {l : Lot} {B : Nat} {q : Rat} {W W' : World} (h : EF w i l B q W) (hb : Below W.heap.size W W') : EF w i l B q W' := ⟨h.eg.below hb, h.fb.below hb, h.lt⟩
theorem EF.ne1 {w : World} {i : Inst} {l : Lot} {B : Nat} {q : Rat} {W : World} (h : EF w i l B q W) : W.heap.size ≠ w.heap.size := h.eg.ne1
theorem EF.ne2 {w : World} {i : Inst} {l : Lot} {B : Nat} {q : Rat} {W : World} (h : EF w i l B q W) : W.heap.size ≠ w.heap.size + 1 := h.eg.ne2
theorem EF.blt {w : World} {i : Inst} {l : Lot} {B : Nat} {q : Rat} {W : World} (h : EF w i l B q W) : B < W.heap.size := h.fb.lt
theorem EF.set2 {w : World} {i : Inst} {l : Lot} {B : Nat} {q : Rat} {W : World} (h : EF w i l B q W) {B' : Nat} (hB : B < B') (x y : Value) : EF w i l B q ((W.setCell ⟨B', 0, none⟩ x).setCell ⟨B', 1, none⟩ y) :=
 ⟨h.eg.set2 (by have := h.lt; omega) x y, ((Below.heap_setCell _ _ _ _ (by simp; omega)).trans (Below.heap_setCell _ _ _ _ (by simp; omega))).trans h.fb, h.lt⟩
theorem EF.calls {w : World} {i : Inst} {l : Lot} {B : Nat} {q : Rat} {f : Nat} {args : Array Value} {v : Value} (ht : Tabs w) (h : ∀ W, Tabs W → Calls Tryz.prog f args W fun e w' => e = .returned v ∧ Below W.heap.size W w') :
 ∀ W, EF w i l B q W → Calls Tryz.prog f args W fun e wn => e = .returned v ∧ EF w i l B q wn ∧ Below W.heap.size W wn ∧ wn.cell? ⟨w.heap.size, 5, none⟩ = some (.int .i64 i.matures) ∧ wn.cell? ⟨w.heap.size + 1, 3, none⟩ = some (.int .i64 l.opn) := by
 intro W hG
 refine (h W (ht.below hG.eg.be)).mono ?_
 rintro e wn ⟨rfl, bn⟩
 exact ⟨rfl, hG.below bn, bn, Lib.cell_of_heap (hG.below bn).eg.ib 5, Lib.cell_of_heap (hG.below bn).eg.lb 3⟩
theorem exact_some (i : Inst) (l : Lot) (d : Int) (hk : i.kind = 2) (ho : l.opn ≤ d) (s1 : i.fn.size ≤ 1000) (s2 : i.fd.size ≤ 1000) (s3 : l.qty.size ≤ 1000) (s4 : l.cost.size ≤ 1000)
 (e1 : okDay d) (e2 : okDay l.opn) (e3 : okDay i.matures) (w : World) (ht : Tabs w) :
 Calls Tryz.prog 174 #[i.enc, l.enc, .int .i64 d] w fun e w' => e = .returned (fenc (exactQ i l d)) ∧ Below w.heap.size w w' := by
 have HQ : Hid (exactQ i l d = if i.matures ≤ d then allQ i l else allQ i l * (((d - l.opn : Int) : Rat) / ((i.matures - l.opn : Int) : Rat))) := by unfold exactQ; rw [Hid, if_neg (by omega)]
 have HT := Lib.hid ht
 obtain ⟨K, hK⟩ : ∃ K, K = 1002 := ⟨_, rfl⟩
 have bf : BdQ (fv i.fn i.fd) K := fv_bd _ _ (by omega) (by omega)
 have bq : BdQ (vl l.qty : Rat) K := BdQ.int (Nat.lt_of_lt_of_le (vl_lt _) (pow_mono (by omega))) (by omega)
 have bc : BdQ (vl l.cost : Rat) K := BdQ.int (Nat.lt_of_lt_of_le (vl_lt _) (pow_mono (by omega))) (by omega)
 have bm := bf.mul bq
 have ba : BdQ (allQ i l) (K + K + K + 1) := bm.sub bc
 have HA : Hid (allQ i l = fv i.fn i.fd * (vl l.qty : Rat) - (vl l.cost : Rat)) := rfl
 have C1 := fun W hW => fOf_any l.qty W (by omega) hW
 have C2 := fun W hW => fMul_any i.fn i.fd (I (vl l.qty : Rat).num) (dn (vl l.qty : Rat)) W (by omega) (by omega) (by have := bq.num; omega) (by have := bq.dn; omega) hW
 have C3 := fun W hW => fOf_any l.cost W (by omega) hW
 have C4 := fun W hW => fSubQ bm bc (by omega) (by omega) W hW
 rw [fv_enc] at C2
 rw [← HA.out] at C4
 generalize (vl l.qty : Rat) = rq at C1 C2 C4 bm bq
 generalize (vl l.cost : Rat) = rc at C3 C4 bc
 generalize fv i.fn i.fd * rq = rm at C2 C4 bm
 generalize allQ i l = ra at C4 ba HQ
 have hG := EG.start w i l
 obtain ⟨W0, hW0⟩ : ∃ W0, ((w.alloc (.cells i.cells 27)).alloc (.cells l.cells 55)).alloc (.cells #[.string ⟨#[]⟩, .string ⟨#[]⟩] 25) = W0 := ⟨_, rfl⟩
 rw [hW0] at hG
 have HC1 := Lib.hid (EG.calls (i := i) (l := l) ht C1)
 have HC2 := Lib.hid (EG.calls (i := i) (l := l) ht C2)
 have HC3 := Lib.hid (EG.calls (i := i) (l := l) ht C3)
 have HC4 := Lib.hid (EG.calls (i := i) (l := l) ht C4)
 have HG := Lib.hid hG
 have c1 := Lib.cell_of_heap hG.ib 1
 have c5 := Lib.cell_of_heap hG.ib 5
 have c6 := Lib.cell_of_heap hG.ib 6
 have c7 := Lib.cell_of_heap hG.ib 7
 have o3 := Lib.cell_of_heap hG.lb 3
 have o4 := Lib.cell_of_heap hG.lb 4
 have o5 := Lib.cell_of_heap hG.lb 5
 simp at c1 c5 c6 c7 o3 o4 o5
 have t1 : (i.kind != 2) = false := by simp [hk]
 have t2 : decide (d < l.opn) = false := decide_eq_false (by omega)
 have HKK := Lib.hid hK
 have HBM := Lib.hid (And.intro bm ba)
 clear hG C1 C2 C3 C4 hk ht bf bq bc bm ba HA hK
 unfold Inst.enc Inst.cells Lot.enc Lot.cells at *
 unfold fenc at HC1 HC2 HC3 HC4
 go_enter Tryz.func174, Tryz.ntmps174
 go_wp2_with fail
 go_cut [7] (fun v7 wx => ∃ (B : Nat) (wr : World), v7 = .pointer (some ⟨B, 0, none⟩) ∧ w.heap.size + 1 + 1 < B ∧ FBox wr B ra ∧ EG w i l wr ∧ wr = wx)
 case first =>
  have hg : EG w i l W0.drew := HG.out.below (Below.refl _ _).drew
  have ne1 := HG.out.ne1
  have ne2 := HG.out.ne2
  have lt1 := HG.out.lt
  clear c1 c5 o3 HG
  go_region_held3 (fun W => W.cell? ⟨w.heap.size, 6, none⟩ = some (.string i.fn) ∧ W.cell? ⟨w.heap.size, 7, none⟩ = some (.string i.fd) ∧ W.cell? ⟨w.heap.size + 1, 4, none⟩ = some (.string l.qty) ∧ W.cell? ⟨w.heap.size + 1, 5, none⟩ = some (.string l.cost))
   (((try dsimp only); refine ⟨?_, ?_, ?_, ?_⟩ <;> first | assumption | (simp [*, World.cell?_alloc_some, World.cell?_setCell_far]; done) | (go_simp; done)))
   (first
     | (go_at_call_of 117 [Value.string l.qty]; refine (HC1.out _ ?_).mono ?_; (first | exact hg | exact hg.below ((Below.refl _ _).alloc (Nat.le_refl _) _)); clear hg c6 c7 o4 o5; rintro e wn ⟨rfl, hg, bn, c6, c7, o4, o5⟩; have ne1 := hg.ne1; have ne2 := hg.ne2; have lt1 := hg.lt; (first | (have nb := (bn.block _ (Array.getElem?_eq_some_iff.1 nb).1).trans nb; have n0 := Lib.cell_of_heap nb 0; have n1 := Lib.cell_of_heap nb 1; have n2 := Lib.frozen_of_heap nb 0; have n3 := Lib.frozen_of_heap nb 1; simp at n0 n1 n2 n3) | (have nb := (bn.block _ (by simp)).trans (heap_alloc_new _ _); have n0 := Lib.cell_of_heap nb 0; have n1 := Lib.cell_of_heap nb 1; have n2 := Lib.frozen_of_heap nb 0; have n3 := Lib.frozen_of_heap nb 1; simp at n0 n1 n2 n3) | skip); clear bn)
     | (go_at_call_of 117 [Value.string l.cost]; refine (HC3.out _ ?_).mono ?_; (first | exact hg | exact hg.below ((Below.refl _ _).alloc (Nat.le_refl _) _)); clear hg c6 c7 o4 o5; rintro e wn ⟨rfl, hg, bn, c6, c7, o4, o5⟩; have ne1 := hg.ne1; have ne2 := hg.ne2; have lt1 := hg.lt; (first | (have nb := (bn.block _ (Array.getElem?_eq_some_iff.1 nb).1).trans nb; have n0 := Lib.cell_of_heap nb 0; have n1 := Lib.cell_of_heap nb 1; have n2 := Lib.frozen_of_heap nb 0; have n3 := Lib.frozen_of_heap nb 1; simp at n0 n1 n2 n3) | (have nb := (bn.block _ (by simp)).trans (heap_alloc_new _ _); have n0 := Lib.cell_of_heap nb 0; have n1 := Lib.cell_of_heap nb 1; have n2 := Lib.frozen_of_heap nb 0; have n3 := Lib.frozen_of_heap nb 1; simp at n0 n1 n2 n3) | skip); clear bn)
     | (go_at_call_of 116 [Value.agg #[Value.string i.fn, Value.string i.fd], Value.agg #[Value.string (I rq.num), Value.string (dn rq)]]; refine (HC2.out _ ?_).mono ?_; (first | exact hg | exact hg.below ((Below.refl _ _).alloc (Nat.le_refl _) _)); clear hg c6 c7 o4 o5; rintro e wn ⟨rfl, hg, bn, c6, c7, o4, o5⟩; have ne1 := hg.ne1; have ne2 := hg.ne2; have lt1 := hg.lt; (first | (have nb := (bn.block _ (Array.getElem?_eq_some_iff.1 nb).1).trans nb; have n0 := Lib.cell_of_heap nb 0; have n1 := Lib.cell_of_heap nb 1; have n2 := Lib.frozen_of_heap nb 0; have n3 := Lib.frozen_of_heap nb 1; simp at n0 n1 n2 n3) | (have nb := (bn.block _ (by simp)).trans (heap_alloc_new _ _); have n0 := Lib.cell_of_heap nb 0; have n1 := Lib.cell_of_heap nb 1; have n2 := Lib.frozen_of_heap nb 0; have n3 := Lib.frozen_of_heap nb 1; simp at n0 n1 n2 n3) | skip); clear bn)
     | (go_at_call_of 226 [Value.agg #[Value.string (I rm.num), Value.string (dn rm)], Value.agg #[Value.string (I rc.num), Value.string (dn rc)]]; refine (HC4.out _ ?_).mono ?_; (first | exact hg | exact hg.below ((Below.refl _ _).alloc (Nat.le_refl _) _)); clear hg c6 c7 o4 o5; rintro e wn ⟨rfl, hg, bn, c6, c7, o4, o5⟩; have ne1 := hg.ne1; have ne2 := hg.ne2; have lt1 := hg.lt; (first | (have nb := (bn.block _ (Array.getElem?_eq_some_iff.1 nb).1).trans nb; have n0 := Lib.cell_of_heap nb 0; have n1 := Lib.cell_of_heap nb 1; have n2 := Lib.frozen_of_heap nb 0; have n3 := Lib.frozen_of_heap nb 1; simp at n0 n1 n2 n3) | (have nb := (bn.block _ (by simp)).trans (heap_alloc_new _ _); have n0 := Lib.cell_of_heap nb 0; have n1 := Lib.cell_of_heap nb 1; have n2 := Lib.frozen_of_heap nb 0; have n3 := Lib.frozen_of_heap nb 1; simp at n0 n1 n2 n3) | skip); clear bn))
  all_goals (first | go_wp2_with fail | skip)
  all_goals go_meet
  all_goals first
   | exact ⟨_, _, rfl, lt1, heap_alloc_new _ _, hg.below ((Below.refl _ _).alloc (Nat.le_refl _) _), rfl⟩
   | (refine ⟨_, _, rfl, ?_, set2 nb _ _, hg.set2 ?_ _ _, rfl⟩ <;> assumption)
 case rest =>
  obtain ⟨B, wr, rfl, hBB, hF, hG, rfl⟩ := hcut
  clear c1 c5 c6 c7 o3 o4 o5 HG hW0 HC1 HC2 HC3 HC4
  have c5 : wr.cell? ⟨w.heap.size, 5, none⟩ = some (.int .i64 i.matures) := Lib.cell_of_heap hG.ib 5
  have o3 : wr.cell? ⟨w.heap.size + 1, 3, none⟩ = some (.int .i64 l.opn) := Lib.cell_of_heap hG.lb 3
  have b0 := Lib.cell_of_heap hF 0
  have b1 := Lib.cell_of_heap hF 1
  have r0 := Lib.cell_of_heap hG.rb 0
  have r1 := Lib.cell_of_heap hG.rb 1
  have f0 := Lib.frozen_of_heap hG.rb 0
  have f1 := Lib.frozen_of_heap hG.rb 1
  simp at b0 b1 r0 r1 f0 f1
  have hg : EF w i l B ra wr := ⟨hG, hF, hBB⟩
  clear hG hF
  by_cases hm : i.matures ≤ d
  ·have t3 : decide (i.matures ≤ d) = true := decide_eq_true hm
   have HQ2 : Hid (exactQ i l d = ra) := by rw [Hid, HQ.out, if_pos hm]
   clear hm HQ
   go_wp2_with fail
   have hd := hg.eg.done ra
   generalize (wr.setCell ⟨w.heap.size + 1 + 1, 0, none⟩ (.string (I ra.num))).setCell ⟨w.heap.size + 1 + 1, 1, none⟩ (.string (dn ra)) = W9 at hd ⊢
   have m0 := Lib.cell_of_heap hd.1 0
   have m1 := Lib.cell_of_heap hd.1 1
   simp at m0 m1
   refine bodyPost_ret (v := .agg #[.string (I ra.num), .string (dn ra)]) (by simp [results, Tryz.results174, go_sem, m0, m1]) rfl ⟨?_, hd.2⟩
   rw [HQ2.out]; rfl
  ·have t3 : decide (i.matures ≤ d) = false := decide_eq_false hm
   unfold okDay at e1 e2 e3
   have HQ2 : Hid (exactQ i l d = ra * (((d - l.opn : Int) : Rat) / ((i.matures - l.opn : Int) : Rat))) := by rw [Hid, HQ.out, if_neg hm]
   obtain ⟨x, hx⟩ : ∃ x, x = d - l.opn := ⟨_, rfl⟩
   obtain ⟨y, hy⟩ : ∃ y, y = i.matures - l.opn := ⟨_, rfl⟩
   have wx : IntKind.i64.wrap (d - l.opn) = x := by rw [hx]; exact IntWalk.i64_in _ (by omega)
   have wy : IntKind.i64.wrap (i.matures - l.opn) = y := by rw [hy]; exact IntWalk.i64_in _ (by omega)
   have x0 : 0 ≤ x ∧ x < 1000000 := by omega
   have y0 : 0 < y ∧ y < 1000000 := by omega
   rw [← hx, ← hy] at HQ2
   have D1 := fun W hW => days_any x (by omega) (by omega) W hW
   have D2 := fun W hW => days_any y (by omega) (by omega) W hW
   have by' : BdQ (y : Rat) 7 := BdQ.int (by omega) (by omega)
   have bx' : BdQ (x : Rat) 7 := BdQ.int (by omega) (by omega)
   have D3 := fun W hW => fQuo_any (I (x : Rat).num) (dn (x : Rat)) (I (y : Rat).num) (dn (y : Rat)) W (by have := bx'.num; omega) (by have := bx'.dn; omega) (by have := by'.num; omega) (by have := by'.dn; omega) (by rw [vl_I]; show y ≠ 0; omega) hW
   rw [fv_enc, fv_enc] at D3
   have bp : BdQ ((x : Rat) / (y : Rat)) 7 := by rw [← Rat.divInt_eq_div]; exact BdQ.div (by omega) (by omega) (by omega)
   have D4 := fun W hW => fMulQ HBM.out.2 bp (by have := HKK.out; omega) (by omega) W hW
   generalize (x : Rat) = rx at *
   generalize (y : Rat) = ry at *
   generalize rx / ry = rp at *
   generalize ra * rp = rz at *
   unfold fenc at D1 D2 D3 D4
   have HD1 := Lib.hid (EF.calls (i := i) (l := l) (B := B) (q := ra) HT.out D1)
   have HD2 := Lib.hid (EF.calls (i := i) (l := l) (B := B) (q := ra) HT.out D2)
   have HD3 := Lib.hid (EF.calls (i := i) (l := l) (B := B) (q := ra) HT.out D3)
   have HD4 := Lib.hid (EF.calls (i := i) (l := l) (B := B) (q := ra) HT.out D4)
   clear hx hy D1 D2 D3 D4 bx' by' bp e1 e2 e3 hm HQ x0 y0 ho
   go_wp2_with fail
   go_cut [8] (fun v8 wx => ∃ (B2 : Nat) (wr : World), v8 = .pointer (some ⟨B2, 0, none⟩) ∧ FBox wr B2 rp ∧ EF w i l B ra wr ∧ wr = wx)
   case first =>
    have ne1 := hg.ne1
    have ne2 := hg.ne2
    have lt1 := hg.blt
    replace hg : EF w i l B ra wr.drew := hg.below (Below.refl _ _).drew
    clear b0 b1 r0 r1 f0 f1
    go_region_held3 (fun W => W.cell? ⟨w.heap.size, 5, none⟩ = some (.int .i64 i.matures) ∧ W.cell? ⟨w.heap.size + 1, 3, none⟩ = some (.int .i64 l.opn))
     (((try dsimp only); refine ⟨?_, ?_⟩ <;> first | assumption | (simp [*, World.cell?_alloc_some, World.cell?_setCell_far]; done) | (go_simp; done)))
     (first
       | (go_at_call_of 228 [Value.int IntKind.i64 x]; refine (HD1.out _ ?_).mono ?_; (first | exact hg | exact hg.below ((Below.refl _ _).alloc (Nat.le_refl _) _)); clear hg c5 o3; rintro e wn ⟨rfl, hg, bn, c5, o3⟩; have ne1 := hg.ne1; have ne2 := hg.ne2; have lt1 := hg.blt; (first | (have nb := (bn.block _ (Array.getElem?_eq_some_iff.1 nb).1).trans nb; have n0 := Lib.cell_of_heap nb 0; have n1 := Lib.cell_of_heap nb 1; have n2 := Lib.frozen_of_heap nb 0; have n3 := Lib.frozen_of_heap nb 1; simp at n0 n1 n2 n3) | (have nb := (bn.block _ (by simp)).trans (heap_alloc_new _ _); have n0 := Lib.cell_of_heap nb 0; have n1 := Lib.cell_of_heap nb 1; have n2 := Lib.frozen_of_heap nb 0; have n3 := Lib.frozen_of_heap nb 1; simp at n0 n1 n2 n3) | skip); clear bn)
       | (go_at_call_of 228 [Value.int IntKind.i64 y]; refine (HD2.out _ ?_).mono ?_; (first | exact hg | exact hg.below ((Below.refl _ _).alloc (Nat.le_refl _) _)); clear hg c5 o3; rintro e wn ⟨rfl, hg, bn, c5, o3⟩; have ne1 := hg.ne1; have ne2 := hg.ne2; have lt1 := hg.blt; (first | (have nb := (bn.block _ (Array.getElem?_eq_some_iff.1 nb).1).trans nb; have n0 := Lib.cell_of_heap nb 0; have n1 := Lib.cell_of_heap nb 1; have n2 := Lib.frozen_of_heap nb 0; have n3 := Lib.frozen_of_heap nb 1; simp at n0 n1 n2 n3) | (have nb := (bn.block _ (by simp)).trans (heap_alloc_new _ _); have n0 := Lib.cell_of_heap nb 0; have n1 := Lib.cell_of_heap nb 1; have n2 := Lib.frozen_of_heap nb 0; have n3 := Lib.frozen_of_heap nb 1; simp at n0 n1 n2 n3) | skip); clear bn)
       | (go_at_call_of 227 [Value.agg #[Value.string (I rx.num), Value.string (dn rx)], Value.agg #[Value.string (I ry.num), Value.string (dn ry)]]; refine (HD3.out _ ?_).mono ?_; (first | exact hg | exact hg.below ((Below.refl _ _).alloc (Nat.le_refl _) _)); clear hg c5 o3; rintro e wn ⟨rfl, hg, bn, c5, o3⟩; have ne1 := hg.ne1; have ne2 := hg.ne2; have lt1 := hg.blt; (first | (have nb := (bn.block _ (Array.getElem?_eq_some_iff.1 nb).1).trans nb; have n0 := Lib.cell_of_heap nb 0; have n1 := Lib.cell_of_heap nb 1; have n2 := Lib.frozen_of_heap nb 0; have n3 := Lib.frozen_of_heap nb 1; simp at n0 n1 n2 n3) | (have nb := (bn.block _ (by simp)).trans (heap_alloc_new _ _); have n0 := Lib.cell_of_heap nb 0; have n1 := Lib.cell_of_heap nb 1; have n2 := Lib.frozen_of_heap nb 0; have n3 := Lib.frozen_of_heap nb 1; simp at n0 n1 n2 n3) | skip); clear bn))
    all_goals (first | go_wp2_with fail | skip)
    all_goals go_meet
    all_goals first
     | exact ⟨_, _, rfl, heap_alloc_new _ _, hg.below ((Below.refl _ _).alloc (Nat.le_refl _) _), rfl⟩
     | (refine ⟨_, _, rfl, set2 nb _ _, hg.set2 ?_ _ _, rfl⟩; assumption)
   case rest =>
    obtain ⟨B2, wq, rfl, hF2, hG2, rfl⟩ := hcut
    clear b0 b1 r0 r1 f0 f1 c5 o3
    have b0 := Lib.cell_of_heap hG2.fb 0
    have b1 := Lib.cell_of_heap hG2.fb 1
    have p0 := Lib.cell_of_heap hF2 0
    have p1 := Lib.cell_of_heap hF2 1
    simp at b0 b1 p0 p1
    have HG2 := Lib.hid hG2
    clear hG2 hF2 hg
    go_wp2_with fail
    refine (HD4.out _ HG2.out).mono ?_
    rintro e w7 ⟨rfl, hg, _, _⟩
    have r0 := Lib.cell_of_heap hg.eg.rb 0
    have r1 := Lib.cell_of_heap hg.eg.rb 1
    have f0 := Lib.frozen_of_heap hg.eg.rb 0
    have f1 := Lib.frozen_of_heap hg.eg.rb 1
    simp at r0 r1 f0 f1
    have HG := Lib.hid hg
    clear hg
    go_wp2_with fail
    have hd := HG.out.eg.done rz
    generalize (w7.setCell ⟨w.heap.size + 1 + 1, 0, none⟩ (.string (I rz.num))).setCell ⟨w.heap.size + 1 + 1, 1, none⟩ (.string (dn rz)) = W9 at hd ⊢
    have m0 := Lib.cell_of_heap hd.1 0
    have m1 := Lib.cell_of_heap hd.1 1
    simp at m0 m1
    refine bodyPost_ret (v := .agg #[.string (I rz.num), .string (dn rz)]) (by simp [results, Tryz.results174, go_sem, m0, m1]) rfl ⟨?_, hd.2⟩
    rw [HQ2.out]; rfl
attribute [local go_sem] Oper.semAt_some
def sumBy (f : SLot → Int) (ls : List SLot) : Int := ls.foldl (fun n l => n + f l) 0
theorem sumBy_snoc (f : SLot → Int) (ls : List SLot) (x : SLot) : sumBy f (ls ++ [x]) = sumBy f ls + f x := by simp [sumBy]
def qtyOf (x : SLot) : Int := vl x.1.qty
def costOf (x : SLot) : Int := vl x.1.cost
theorem sumBy_bd {f : SLot → Int} {K : Nat} (hf : ∀ x, (f x).natAbs < K) (ls : List SLot) : (sumBy f ls).natAbs ≤ ls.length * K := by
 have : ∀ (ls : List SLot) (n : Int), (ls.foldl (fun n l => n + f l) n).natAbs ≤ n.natAbs + ls.length * K := by
  intro ls
  induction ls with
  | nil => intro n; simp
  | cons x r ih =>
    intro n
    simp only [List.foldl_cons, List.length_cons]
    have h1 := ih (n + f x)
    have h2 := hf x
    rw [Nat.add_mul]
    omega
 simpa [sumBy] using this ls 0
theorem sumBy_size {f : SLot → Int} {K : Nat} (hf : ∀ x, (f x).natAbs < 10 ^ K) (ls : List SLot) (hl : ls.length < 10 ^ 7) : (I (sumBy f ls)).size ≤ 7 + K + 1 := by
 refine I_size_le (k := 7 + K) ?_
 have h := sumBy_bd hf ls
 refine Nat.lt_of_le_of_lt h ?_
 rw [Nat.pow_add]
 exact Nat.mul_lt_mul_of_pos_right hl (Nat.pow_pos (by omega))
theorem qty_lt {K : Nat} (hK : K = 1000) (x : SLot) : (qtyOf x).natAbs < 10 ^ K := Nat.lt_of_lt_of_le (vl_lt _) (pow_mono (by rw [hK]; exact x.2.2.2.1))
theorem cost_lt {K : Nat} (hK : K = 1000) (x : SLot) : (costOf x).natAbs < 10 ^ K := Nat.lt_of_lt_of_le (vl_lt _) (pow_mono (by rw [hK]; exact x.2.2.2.2.1))
structure TotJ (W : World) (Bq Bc Bx : Nat) (q c xq xc : ByteArray) (v0 v1 v11 v12 : Value) (L : Array Bool) (a : Act) (w : World) : Prop where
 sz : L.size = 10
 fr : ∃ s13 s14 s15 s16 s17 s18 s19 s20 : Value, a = { tmps := #[v0, v1, undef, undef, Value.string { data := #[] }, Value.string { data := #[] }, Value.pointer (some { block := Bq, off := 0 }), Value.pointer (some { block := Bc, off := 0 }), Value.pointer (some { block := Bx, off := 0 }), v0, v1, v11, v12, s13, s14, s15, s16, s17, s18, s19, s20, undef, undef], defers := [] } ∧ (L.getD 0 false = true → s13 = .string q) ∧ (L.getD 1 false = true → s14 = .pointer (some ⟨Bx, 4, none⟩)) ∧ (L.getD 2 false = true → s15 = .string xq) ∧ (L.getD 3 false = true → s16 = .string (I (vl q + vl xq))) ∧ (L.getD 4 false = true → s17 = .string c) ∧ (L.getD 5 false = true → s18 = .pointer (some ⟨Bx, 5, none⟩)) ∧ (L.getD 6 false = true → s19 = .string xc) ∧ (L.getD 7 false = true → s20 = .string (I (vl c + vl xc)))
 d7 : L.getD 7 false = true → L.getD 0 false = true ∧ L.getD 2 false = true ∧ L.getD 3 false = true ∧ L.getD 4 false = true ∧ L.getD 6 false = true
 d8 : L.getD 8 false = true → L.getD 7 false = true
 d9 : L.getD 9 false = true → L.getD 8 false = true
 d3 : L.getD 3 false = true → L.getD 0 false = true ∧ L.getD 2 false = true
 wa : L.getD 8 false = false → Below W.heap.size W w
 wb : L.getD 8 false = true → L.getD 9 false = false → ∃ wn, Below W.heap.size W wn ∧ w = wn.setCell ⟨Bq, 0, none⟩ (.string (I (vl q + vl xq)))
 wc : L.getD 9 false = true → ∃ wn, Below W.heap.size W wn ∧ w = (wn.setCell ⟨Bq, 0, none⟩ (.string (I (vl q + vl xq)))).setCell ⟨Bc, 0, none⟩ (.string (I (vl c + vl xc)))
theorem lTotal_any (n₀ : Nat) (A : Option Addr) (ls : List SLot) (c : Nat) (s : ByteArray) (w : World) (hlen : ls.length ≤ 1000000) (hR : RdB n₀ w A ls) (hnw : n₀ ≤ w.heap.size) (ht : Tabs w) :
 Calls Tryz.prog 67 #[.slice A ls.length c, .string s] w fun e w' => e = .returned (.tuple #[.string (I (sumBy qtyOf (ownL ls s))), .string (I (sumBy costOf (ownL ls s)))]) ∧ Below w.heap.size w w' := by
 have HT := hI ht
 clear ht
 refine (callsIn_wide (n := 6)).1 ?_
 refine callsIn_of_wp_marks Tryz.func67 rfl trivial ?_ rfl
 simp only [Tryz.ntmps67, List.size_toArray, List.length_cons, List.length_nil, Nat.reduceAdd, Nat.reduceSub, Array.replicate_succ, Array.replicate_zero, List.push_toArray, List.append_toArray, List.nil_append, List.cons_append]
 gi_wp2_with fail
 refine ⟨trivial, ?_⟩
 refine (callsIn_wide.2 (lof_any A ls.length c s _)).mono ?_
 rintro e w1 ⟨rfl, hw1⟩
 gi_wp2_with fail
 have b1 : Below w.heap.size w w1 := by rw [hw1]; exact ((((Below.refl _ w).alloc (Nat.le_refl _) _).alloc (by simp) _).alloc (by simp; omega) _).alloc (by simp; omega) _
 have hsz : w1.heap.size = w.heap.size + 4 := by rw [hw1]; simp
 have kq : Boxed w1 w.heap.size 23 (.string (I 0)) := by rw [hw1]; exact (((Boxed.new w _ _).alloc _).alloc _).alloc _
 have kc : Boxed w1 (w.heap.size + 1) 23 (.string (I 0)) := by
  rw [hw1]
  have := Boxed.new (w.alloc (.cells #[.string ⟨#[]⟩] 23)) 23 (.string ⟨#[]⟩)
  rw [World.size_alloc] at this
  exact (this.alloc _).alloc _
 have k0 : Boxed w1 (w.heap.size + 1 + 1) 56 (.slice A ls.length c) := by
  rw [hw1]
  have := Boxed.new ((w.alloc (.cells #[.string ⟨#[]⟩] 23)).alloc (.cells #[.string ⟨#[]⟩] 23)) 56 (.slice A ls.length c)
  rw [World.size_alloc, World.size_alloc] at this
  exact this.alloc _
 have k1 : Boxed w1 (w.heap.size + 1 + 1 + 1) 9 (.string s) := by
  rw [hw1]
  have := Boxed.new (((w.alloc (.cells #[.string ⟨#[]⟩] 23)).alloc (.cells #[.string ⟨#[]⟩] 23)).alloc (.cells #[.slice A ls.length c] 56)) 9 (.string s)
  rw [World.size_alloc, World.size_alloc, World.size_alloc] at this
  exact this
 rw [← hw1]
 clear hw1
 obtain ⟨K, hK⟩ : ∃ K, K = 1000 := ⟨_, rfl⟩
 refine wpIn_rangeFunc_ownH rfl (by omega) (gf := 119) (lb := #[.pointer (some ⟨w.heap.size + 1 + 1, 0, none⟩), .pointer (some ⟨w.heap.size + 1 + 1 + 1, 0, none⟩)]) rfl trivial (enters_of Tryz.func119 (by kernel_rfl) rfl)
  (of1_seq (6 - 1) n₀ (w.heap.size + 1 + 1) (w.heap.size + 1 + 1 + 1) A ls c s w1 (by omega) hlen k0 k1 (hR.below (b1.mono hnw)) (by omega)) KpB.trans (fun W l o o' hl h _ _ => KpB.put (N := w1.heap.size) (by omega) (by omega) W l o o' hl h) (Below.refl _ _) (fun _ => rfl)
  (fun pre W => (Boxed W w.heap.size 23 (.string (I (sumBy qtyOf pre))) ∧ Boxed W (w.heap.size + 1) 23 (.string (I (sumBy costOf pre)))) ∧ Below w.heap.size w W) (fun _ _ _ => False)
  (OwnFrom.and (OwnFrom.and ((boxed_own _ _ _).from _) ((boxed_own _ _ _).from _)) (ownFrom_below (Nat.le_refl _) (by omega)))
  (fun _ => ownFrom_pure _ _) ⟨⟨kq, kc⟩, b1⟩
  (fun x a' W => ∃ Bx, w.heap.size + 1 < Bx ∧ LotBox W Bx x.1 ∧ a' = { tmps := #[Value.slice A ls.length c, Value.string s, undef, undef, Value.string { data := #[] }, Value.string { data := #[] }, Value.pointer (some { block := w.heap.size, off := 0 }), Value.pointer (some { block := w.heap.size + 1, off := 0 }), Value.pointer (some { block := Bx, off := 0 }), Value.slice A ls.length c, Value.string s, Value.func (Fn.func 119) #[] #[Value.pointer (some { block := w.heap.size + 1 + 1, off := 0 }), Value.pointer (some { block := w.heap.size + 1 + 1 + 1, off := 0 })], x.1.enc, undef, undef, undef, undef, undef, undef, undef, undef, undef, undef], defers := [] })
  (fun x a' => ?hAx) ?assign ?body ?done ?stop
 case hAx =>
  rintro _ X Y row ⟨Bx, hB, hx, rfl⟩ hg hr
  refine ⟨Bx, hB, (hg.block Bx hx.lt (fun e => ?_)).trans hx, rfl⟩
  obtain ⟨_, o, ho, hc⟩ := hr Bx e.symm
  rw [show X.heap[Bx]? = _ from hx] at ho; cases ho; cases hc
 case assign =>
  rintro l pre x W K ⟨⟨hq, hc⟩, hB⟩ hK
  have hlt := hc.lt
  obtain ⟨W5, hW5⟩ : ∃ W5, W.alloc (.cells x.1.cells 55) = W5 := ⟨_, rfl⟩
  have b5 : Below W.heap.size W W5 := by rw [← hW5]; exact (Below.refl _ W).alloc (Nat.le_refl _) _
  have HF : Hid (LotBox W5 W.heap.size x.1 ∧ KeepsFrom w1.heap.size W W5 ∧ KpB n₀ (w.heap.size + 1 + 1 + 1) W W5 ∧ Boxed W5 w.heap.size 23 (.string (I (sumBy qtyOf pre))) ∧ Boxed W5 (w.heap.size + 1) 23 (.string (I (sumBy costOf pre))) ∧ Below w.heap.size w W5) := by
   refine ⟨by rw [← hW5]; exact heap_alloc_new W _, by rw [← hW5]; exact (KeepsOthers.alloc _ _).from _, KpB.below b5 (by have := hB.size; omega), (b5.block _ hq.lt).trans hq, (b5.block _ hc.lt).trans hc, hB.trans (b5.mono hB.size)⟩
  clear b5
  dsimp only [encL, Lot.enc, Lot.cells] at hW5 ⊢
  gi_wp2
  obtain ⟨f1, f2, f3, f4, f5, f6⟩ := HF.out
  exact hK _ _ f2 f3 ⟨⟨f4, f5⟩, f6⟩ ⟨W.heap.size, hlt, f1, rfl⟩
 case body =>
  rintro l pre x a' W hl ⟨r, hr⟩ ⟨⟨hq, hc⟩, hB⟩ ⟨Bx, hBx, bX, rfl⟩ hlt
  have mixed : Tryz.prog.follows .mixedOrders = true := by kernel_rfl
  have hpl : pre.length < 10 ^ 7 := by omega
  have zq := sumBy_size (qty_lt hK) pre hpl
  have zc := sumBy_size (cost_lt hK) pre hpl
  have zxq : x.1.qty.size ≤ 1000 := x.2.2.2.1
  have zxc : x.1.cost.size ≤ 1000 := x.2.2.2.2.1
  have HQ := hI hq
  have HC := hI hc
  have HX := hI bX
  have HB := hI hB
  have cq : W.drew.cell? ⟨w.heap.size, 0, none⟩ = some (.string (I (sumBy qtyOf pre))) := hq.cell
  have cc : W.drew.cell? ⟨w.heap.size + 1, 0, none⟩ = some (.string (I (sumBy costOf pre))) := hc.cell
  have x4 : W.drew.cell? ⟨Bx, 4, none⟩ = some (.string x.1.qty) := Lib.cell_of_heap (show W.drew.heap[Bx]? = _ from bX) 4
  have x5 : W.drew.cell? ⟨Bx, 5, none⟩ = some (.string x.1.cost) := Lib.cell_of_heap (show W.drew.heap[Bx]? = _ from bX) 5
  have hN : Below W.heap.size W W.drew := (Below.refl _ W).drew
  have HADD : Hid (∀ (a b : ByteArray) (W' : World), a.size ≤ 2000 → b.size ≤ 2000 → Below W.heap.size W W' → CallsIn (Fence.wide.inRound l) (6 - 1 - 1 - 1) Tryz.prog 28 #[.string a, .string b] W' fun e wn => e = .returned (.string (I (vl a + vl b))) ∧ Below W.heap.size W wn ∧ wn.cell? ⟨w.heap.size, 0, none⟩ = some (.string (I (sumBy qtyOf pre))) ∧ wn.cell? ⟨w.heap.size + 1, 0, none⟩ = some (.string (I (sumBy costOf pre))) ∧ wn.frozen? ⟨w.heap.size, 0, none⟩ = false ∧ wn.frozen? ⟨w.heap.size + 1, 0, none⟩ = false ∧ wn.cell? ⟨Bx, 4, none⟩ = some (.string x.1.qty) ∧ wn.cell? ⟨Bx, 5, none⟩ = some (.string x.1.cost)) := by
   intro a b W' ha hb hN
   refine (CallsIn.inRound l (callsIn_wide.2 (Add_any a b W' (by omega) (by omega) (HT.out.below (HB.out.trans (hN.mono HB.out.size)))))).mono ?_
   rintro e wn ⟨rfl, bn⟩
   have hN := hN.trans (bn.mono hN.size)
   have gq := (hN.block _ HQ.out.lt).trans HQ.out
   have gc := (hN.block _ HC.out.lt).trans HC.out
   have gx : LotBox wn Bx x.1 := (hN.block _ HX.out.lt).trans HX.out
   exact ⟨rfl, hN, Boxed.cell gq, Boxed.cell gc, Boxed.frozen gq, Boxed.frozen gc, Lib.cell_of_heap gx 4, Lib.cell_of_heap gx 5⟩
  have y1 : (I (sumBy qtyOf pre)).size ≤ 2000 := by omega
  have y2 : (I (sumBy costOf pre)).size ≤ 2000 := by omega
  have y3 : x.1.qty.size ≤ 2000 := by omega
  have y4 : x.1.cost.size ≤ 2000 := by omega
  have HQS := hI (sumBy_snoc qtyOf pre x)
  have HCS := hI (sumBy_snoc costOf pre x)
  have hne : w.heap.size ≠ w.heap.size + 1 := by omega
  clear hq hc bX hB hr hR k0 k1 kq kc zq zc zxq zxc hpl hK b1
  dsimp only [Lot.enc, Lot.cells]
  gi_wp2
  generalize Value.func (Fn.func 119) #[] #[Value.pointer (some { block := w.heap.size + 1 + 1, off := 0 }), Value.pointer (some { block := w.heap.size + 1 + 1 + 1, off := 0 })] = v11
  generalize Value.agg #[Value.string x.val.id, Value.string x.val.inst, Value.int IntKind.i64 x.val.acq, Value.int IntKind.i64 x.val.opn, Value.string x.val.qty, Value.string x.val.cost, Value.string x.val.used] = v12
  generalize Value.slice A ls.length c = v0
  generalize Value.string s = v1
  refine wpIn_region_any mixed (wpAnyIn_inv (TotJ W w.heap.size (w.heap.size + 1) Bx (I (sumBy qtyOf pre)) (I (sumBy costOf pre)) x.1.qty x.1.cost v0 v1 v11 v12) ?st ?dn _ _ _ _ ?h0 (by decide))
  case h0 =>
   refine ⟨by simp, ⟨_, _, _, _, _, _, _, _, rfl, ?_, ?_, ?_, ?_, ?_, ?_, ?_, ?_⟩, ?_, ?_, ?_, ?_, fun _ => hN, ?_, ?_⟩ <;> intro h <;> simp at h
  case dn =>
   intro L a w' hj hr
   have all := all_on hr hj.sz (by kernel_rfl)
   obtain ⟨wn, hWn, rfl⟩ := hj.wc (all 9 (by omega))
   clear hr hj all
   have hWw : w.heap.size ≤ W.heap.size := HB.out.size
   have g1 : Boxed wn w.heap.size 23 (.string (I (sumBy qtyOf pre))) := (hWn.block _ HQ.out.lt).trans HQ.out
   have g2 : Boxed wn (w.heap.size + 1) 23 (.string (I (sumBy costOf pre))) := (hWn.block _ HC.out.lt).trans HC.out
   have q1 : Boxed ((wn.setCell ⟨w.heap.size, 0, none⟩ (.string (I (vl (I (sumBy qtyOf pre)) + vl x.1.qty)))).setCell ⟨w.heap.size + 1, 0, none⟩ (.string (I (vl (I (sumBy costOf pre)) + vl x.1.cost)))) w.heap.size 23 (.string (I (sumBy qtyOf (pre ++ [x])))) := by
    rw [HQS.out, vl_I]
    exact (g1.set _).other (by omega) _
   have q2 : Boxed ((wn.setCell ⟨w.heap.size, 0, none⟩ (.string (I (vl (I (sumBy qtyOf pre)) + vl x.1.qty)))).setCell ⟨w.heap.size + 1, 0, none⟩ (.string (I (vl (I (sumBy costOf pre)) + vl x.1.cost)))) (w.heap.size + 1) 23 (.string (I (sumBy costOf (pre ++ [x])))) := by
    rw [HCS.out, vl_I (sumBy costOf pre)]
    exact (g2.other (by omega) _).set _
   have q3 : Below w.heap.size W ((wn.setCell ⟨w.heap.size, 0, none⟩ (.string (I (vl (I (sumBy qtyOf pre)) + vl x.1.qty)))).setCell ⟨w.heap.size + 1, 0, none⟩ (.string (I (vl (I (sumBy costOf pre)) + vl x.1.cost)))) :=
    ((hWn.mono hWw).setCell (p := ⟨w.heap.size, 0, none⟩) (Nat.le_refl _) _).setCell (p := ⟨w.heap.size + 1, 0, none⟩) (by simp) _
   refine ⟨?_, ⟨q3.mono hnw, fun hb => ?_⟩, ⟨q1, q2⟩, HB.out.trans q3⟩
   ·refine KeepsFrom.trans ⟨hWn.size, fun k o _ hk _ => (hWn.block k (Array.getElem?_eq_some_iff.1 hk).1).trans hk⟩ (KeepsFrom.trans ((KeepsOthers.setCell _ _ _).from _) ((KeepsOthers.setCell _ _ _).from _))
   ·exact ((Below.heap_setCell _ _ _ _ (by simp; omega)).trans (Below.heap_setCell _ _ _ _ (by simp; omega))).trans (hWn.block _ hb)
  case st =>
   intro L a w' hj i hi
   obtain ⟨hun, o, ho, hall⟩ := mem_ready.1 hi
   have hoff := getD_off hun
   have hlt := (Array.getElem?_eq_some_iff.1 ho).1
   simp at hlt
   obtain ⟨s13, s14, s15, s16, s17, s18, s19, s20, rfl, p⟩ := hj.fr
   have HP := hI p
   have HJ := hI hj
   clear p hj cq cc x4 x5 hN
   rcases (show i = 0 ∨ i = 1 ∨ i = 2 ∨ i = 3 ∨ i = 4 ∨ i = 5 ∨ i = 6 ∨ i = 7 ∨ i = 8 ∨ i = 9 from by omega) with rfl | rfl | rfl | rfl | rfl | rfl | rfl | rfl | rfl | rfl
   ·simp at ho
    subst ho
    clear hall hi
    have h8 : L.getD 8 false = false := (off_or_on L 8).resolve_right fun h => not_on hoff (HJ.out.d7 (HJ.out.d8 h)).1
    have hNw := HJ.out.wa h8
    have cq : w'.cell? ⟨w.heap.size, 0, none⟩ = some (.string (I (sumBy qtyOf pre))) := Boxed.cell (show Boxed w' _ 23 _ from (hNw.block _ HQ.out.lt).trans HQ.out)
    refine wpOpIn_step rfl (fun K' hK' => ?_)
    have HK := hI hK'
    clear hK'
    go_simp
    exact HK.out _ _ ⟨by simp [HJ.out.sz], ⟨_, _, _, _, _, _, _, _, rfl, fun _ => rfl, fun h => HP.out.2.1 (getD_dn (by decide) h), fun h => HP.out.2.2.1 (getD_dn (by decide) h), fun h => HP.out.2.2.2.1 (getD_dn (by decide) h), fun h => HP.out.2.2.2.2.1 (getD_dn (by decide) h), fun h => HP.out.2.2.2.2.2.1 (getD_dn (by decide) h), fun h => HP.out.2.2.2.2.2.2.1 (getD_dn (by decide) h), fun h => HP.out.2.2.2.2.2.2.2 (getD_dn (by decide) h)⟩, fun h => let k := HJ.out.d7 (getD_dn (by decide) h); ⟨getD_up hun k.1, getD_up hun k.2.1, getD_up hun k.2.2.1, getD_up hun k.2.2.2.1, getD_up hun k.2.2.2.2⟩, fun h => getD_up hun (HJ.out.d8 (getD_dn (by decide) h)), fun h => getD_up hun (HJ.out.d9 (getD_dn (by decide) h)), fun h => let k := HJ.out.d3 (getD_dn (by decide) h); ⟨getD_up hun k.1, getD_up hun k.2⟩, fun h => HJ.out.wa (getD_df (by decide) h), fun h h' => HJ.out.wb (getD_dn (by decide) h) (getD_df (by decide) h'), fun h => HJ.out.wc (getD_dn (by decide) h)⟩
   ·simp at ho
    subst ho
    clear hall hi
    refine wpOpIn_step rfl (fun K' hK' => ?_)
    have HK := hI hK'
    clear hK'
    go_simp
    exact HK.out _ _ ⟨by simp [HJ.out.sz], ⟨_, _, _, _, _, _, _, _, rfl, fun h => HP.out.1 (getD_dn (by decide) h), fun _ => rfl, fun h => HP.out.2.2.1 (getD_dn (by decide) h), fun h => HP.out.2.2.2.1 (getD_dn (by decide) h), fun h => HP.out.2.2.2.2.1 (getD_dn (by decide) h), fun h => HP.out.2.2.2.2.2.1 (getD_dn (by decide) h), fun h => HP.out.2.2.2.2.2.2.1 (getD_dn (by decide) h), fun h => HP.out.2.2.2.2.2.2.2 (getD_dn (by decide) h)⟩, fun h => let k := HJ.out.d7 (getD_dn (by decide) h); ⟨getD_up hun k.1, getD_up hun k.2.1, getD_up hun k.2.2.1, getD_up hun k.2.2.2.1, getD_up hun k.2.2.2.2⟩, fun h => getD_up hun (HJ.out.d8 (getD_dn (by decide) h)), fun h => getD_up hun (HJ.out.d9 (getD_dn (by decide) h)), fun h => let k := HJ.out.d3 (getD_dn (by decide) h); ⟨getD_up hun k.1, getD_up hun k.2⟩, fun h => HJ.out.wa (getD_df (by decide) h), fun h h' => HJ.out.wb (getD_dn (by decide) h) (getD_df (by decide) h'), fun h => HJ.out.wc (getD_dn (by decide) h)⟩
   ·simp at ho
    subst ho
    have h1x : L.getD 1 false = true := hall { on := 1, ground := Ground.data } (by simp) (by decide)
    have HALL := hI h1x
    clear hall hi h1x
    have h8 : L.getD 8 false = false := (off_or_on L 8).resolve_right fun h => not_on hoff (HJ.out.d7 (HJ.out.d8 h)).2.1
    have hNw := HJ.out.wa h8
    have e14 := HP.out.2.1 HALL.out
    subst e14
    have x4 : w'.cell? ⟨Bx, 4, none⟩ = some (.string x.1.qty) := Lib.cell_of_heap ((hNw.block _ HX.out.lt).trans HX.out) 4
    refine wpOpIn_step rfl (fun K' hK' => ?_)
    have HK := hI hK'
    clear hK'
    go_simp
    exact HK.out _ _ ⟨by simp [HJ.out.sz], ⟨_, _, _, _, _, _, _, _, rfl, fun h => HP.out.1 (getD_dn (by decide) h), fun h => HP.out.2.1 (getD_dn (by decide) h), fun _ => rfl, fun h => HP.out.2.2.2.1 (getD_dn (by decide) h), fun h => HP.out.2.2.2.2.1 (getD_dn (by decide) h), fun h => HP.out.2.2.2.2.2.1 (getD_dn (by decide) h), fun h => HP.out.2.2.2.2.2.2.1 (getD_dn (by decide) h), fun h => HP.out.2.2.2.2.2.2.2 (getD_dn (by decide) h)⟩, fun h => let k := HJ.out.d7 (getD_dn (by decide) h); ⟨getD_up hun k.1, getD_up hun k.2.1, getD_up hun k.2.2.1, getD_up hun k.2.2.2.1, getD_up hun k.2.2.2.2⟩, fun h => getD_up hun (HJ.out.d8 (getD_dn (by decide) h)), fun h => getD_up hun (HJ.out.d9 (getD_dn (by decide) h)), fun h => let k := HJ.out.d3 (getD_dn (by decide) h); ⟨getD_up hun k.1, getD_up hun k.2⟩, fun h => HJ.out.wa (getD_df (by decide) h), fun h h' => HJ.out.wb (getD_dn (by decide) h) (getD_df (by decide) h'), fun h => HJ.out.wc (getD_dn (by decide) h)⟩
   ·simp at ho
    subst ho
    have h0x : L.getD 0 false = true := hall { on := 0, ground := Ground.data } (by simp) (by decide)
    have h2x : L.getD 2 false = true := hall { on := 2, ground := Ground.data } (by simp) (by decide)
    have HALL := hI (And.intro h0x h2x)
    clear hall hi h0x h2x
    have h8 : L.getD 8 false = false := (off_or_on L 8).resolve_right fun h => not_on hoff (HJ.out.d7 (HJ.out.d8 h)).2.2.1
    have hNw := HJ.out.wa h8
    have e13 := HP.out.1 HALL.out.1
    have e15 := HP.out.2.2.1 HALL.out.2
    subst e13 e15
    refine wpOpIn_step rfl (fun K' hK' => ?_)
    have HK := hI hK'
    clear hK'
    go_simp
    refine ⟨trivial, ?_⟩
    refine (HADD.out (I (sumBy qtyOf pre)) x.1.qty _ y1 y3 hNw).mono ?_
    rintro e wn ⟨rfl, hNn, _⟩
    exact HK.out _ _ ⟨by simp [HJ.out.sz], ⟨_, _, _, _, _, _, _, _, rfl, fun h => HP.out.1 (getD_dn (by decide) h), fun h => HP.out.2.1 (getD_dn (by decide) h), fun h => HP.out.2.2.1 (getD_dn (by decide) h), fun _ => rfl, fun h => HP.out.2.2.2.2.1 (getD_dn (by decide) h), fun h => HP.out.2.2.2.2.2.1 (getD_dn (by decide) h), fun h => HP.out.2.2.2.2.2.2.1 (getD_dn (by decide) h), fun h => HP.out.2.2.2.2.2.2.2 (getD_dn (by decide) h)⟩, fun h => let k := HJ.out.d7 (getD_dn (by decide) h); ⟨getD_up hun k.1, getD_up hun k.2.1, getD_up hun k.2.2.1, getD_up hun k.2.2.2.1, getD_up hun k.2.2.2.2⟩, fun h => getD_up hun (HJ.out.d8 (getD_dn (by decide) h)), fun h => getD_up hun (HJ.out.d9 (getD_dn (by decide) h)), fun _ => ⟨getD_up hun HALL.out.1, getD_up hun HALL.out.2⟩, fun _ => hNn, fun h _ => (not_on hoff (HJ.out.d7 (HJ.out.d8 (getD_dn (by decide) h))).2.2.1).elim, fun h => (not_on hoff (HJ.out.d7 (HJ.out.d8 (HJ.out.d9 (getD_dn (by decide) h)))).2.2.1).elim⟩
   ·simp at ho
    subst ho
    clear hall hi
    have h8 : L.getD 8 false = false := (off_or_on L 8).resolve_right fun h => not_on hoff (HJ.out.d7 (HJ.out.d8 h)).2.2.2.1
    have hNw := HJ.out.wa h8
    have cc : w'.cell? ⟨w.heap.size + 1, 0, none⟩ = some (.string (I (sumBy costOf pre))) := Boxed.cell (show Boxed w' _ 23 _ from (hNw.block _ HC.out.lt).trans HC.out)
    refine wpOpIn_step rfl (fun K' hK' => ?_)
    have HK := hI hK'
    clear hK'
    go_simp
    exact HK.out _ _ ⟨by simp [HJ.out.sz], ⟨_, _, _, _, _, _, _, _, rfl, fun h => HP.out.1 (getD_dn (by decide) h), fun h => HP.out.2.1 (getD_dn (by decide) h), fun h => HP.out.2.2.1 (getD_dn (by decide) h), fun h => HP.out.2.2.2.1 (getD_dn (by decide) h), fun _ => rfl, fun h => HP.out.2.2.2.2.2.1 (getD_dn (by decide) h), fun h => HP.out.2.2.2.2.2.2.1 (getD_dn (by decide) h), fun h => HP.out.2.2.2.2.2.2.2 (getD_dn (by decide) h)⟩, fun h => let k := HJ.out.d7 (getD_dn (by decide) h); ⟨getD_up hun k.1, getD_up hun k.2.1, getD_up hun k.2.2.1, getD_up hun k.2.2.2.1, getD_up hun k.2.2.2.2⟩, fun h => getD_up hun (HJ.out.d8 (getD_dn (by decide) h)), fun h => getD_up hun (HJ.out.d9 (getD_dn (by decide) h)), fun h => let k := HJ.out.d3 (getD_dn (by decide) h); ⟨getD_up hun k.1, getD_up hun k.2⟩, fun h => HJ.out.wa (getD_df (by decide) h), fun h h' => HJ.out.wb (getD_dn (by decide) h) (getD_df (by decide) h'), fun h => HJ.out.wc (getD_dn (by decide) h)⟩
   ·simp at ho
    subst ho
    clear hall hi
    refine wpOpIn_step rfl (fun K' hK' => ?_)
    have HK := hI hK'
    clear hK'
    go_simp
    exact HK.out _ _ ⟨by simp [HJ.out.sz], ⟨_, _, _, _, _, _, _, _, rfl, fun h => HP.out.1 (getD_dn (by decide) h), fun h => HP.out.2.1 (getD_dn (by decide) h), fun h => HP.out.2.2.1 (getD_dn (by decide) h), fun h => HP.out.2.2.2.1 (getD_dn (by decide) h), fun h => HP.out.2.2.2.2.1 (getD_dn (by decide) h), fun _ => rfl, fun h => HP.out.2.2.2.2.2.2.1 (getD_dn (by decide) h), fun h => HP.out.2.2.2.2.2.2.2 (getD_dn (by decide) h)⟩, fun h => let k := HJ.out.d7 (getD_dn (by decide) h); ⟨getD_up hun k.1, getD_up hun k.2.1, getD_up hun k.2.2.1, getD_up hun k.2.2.2.1, getD_up hun k.2.2.2.2⟩, fun h => getD_up hun (HJ.out.d8 (getD_dn (by decide) h)), fun h => getD_up hun (HJ.out.d9 (getD_dn (by decide) h)), fun h => let k := HJ.out.d3 (getD_dn (by decide) h); ⟨getD_up hun k.1, getD_up hun k.2⟩, fun h => HJ.out.wa (getD_df (by decide) h), fun h h' => HJ.out.wb (getD_dn (by decide) h) (getD_df (by decide) h'), fun h => HJ.out.wc (getD_dn (by decide) h)⟩
   ·simp at ho
    subst ho
    have h5x : L.getD 5 false = true := hall { on := 5, ground := Ground.data } (by simp) (by decide)
    have HALL := hI h5x
    clear hall hi h5x
    have h8 : L.getD 8 false = false := (off_or_on L 8).resolve_right fun h => not_on hoff (HJ.out.d7 (HJ.out.d8 h)).2.2.2.2
    have hNw := HJ.out.wa h8
    have e18 := HP.out.2.2.2.2.2.1 HALL.out
    subst e18
    have x5 : w'.cell? ⟨Bx, 5, none⟩ = some (.string x.1.cost) := Lib.cell_of_heap ((hNw.block _ HX.out.lt).trans HX.out) 5
    refine wpOpIn_step rfl (fun K' hK' => ?_)
    have HK := hI hK'
    clear hK'
    go_simp
    exact HK.out _ _ ⟨by simp [HJ.out.sz], ⟨_, _, _, _, _, _, _, _, rfl, fun h => HP.out.1 (getD_dn (by decide) h), fun h => HP.out.2.1 (getD_dn (by decide) h), fun h => HP.out.2.2.1 (getD_dn (by decide) h), fun h => HP.out.2.2.2.1 (getD_dn (by decide) h), fun h => HP.out.2.2.2.2.1 (getD_dn (by decide) h), fun h => HP.out.2.2.2.2.2.1 (getD_dn (by decide) h), fun _ => rfl, fun h => HP.out.2.2.2.2.2.2.2 (getD_dn (by decide) h)⟩, fun h => let k := HJ.out.d7 (getD_dn (by decide) h); ⟨getD_up hun k.1, getD_up hun k.2.1, getD_up hun k.2.2.1, getD_up hun k.2.2.2.1, getD_up hun k.2.2.2.2⟩, fun h => getD_up hun (HJ.out.d8 (getD_dn (by decide) h)), fun h => getD_up hun (HJ.out.d9 (getD_dn (by decide) h)), fun h => let k := HJ.out.d3 (getD_dn (by decide) h); ⟨getD_up hun k.1, getD_up hun k.2⟩, fun h => HJ.out.wa (getD_df (by decide) h), fun h h' => HJ.out.wb (getD_dn (by decide) h) (getD_df (by decide) h'), fun h => HJ.out.wc (getD_dn (by decide) h)⟩
   ·simp at ho
    subst ho
    have h4x : L.getD 4 false = true := hall { on := 4, ground := Ground.data } (by simp) (by decide)
    have h6x : L.getD 6 false = true := hall { on := 6, ground := Ground.data } (by simp) (by decide)
    have h3x : L.getD 3 false = true := hall { on := 3, ground := Ground.chain } (by simp) (by decide)
    have HALL := hI (And.intro h4x (And.intro h6x h3x))
    clear hall hi h4x h6x h3x
    have h8 : L.getD 8 false = false := (off_or_on L 8).resolve_right fun h => not_on hoff (HJ.out.d8 h)
    have hNw := HJ.out.wa h8
    have e17 := HP.out.2.2.2.2.1 HALL.out.1
    have e19 := HP.out.2.2.2.2.2.2.1 HALL.out.2.1
    subst e17 e19
    refine wpOpIn_step rfl (fun K' hK' => ?_)
    have HK := hI hK'
    clear hK'
    go_simp
    refine ⟨trivial, ?_⟩
    refine (HADD.out (I (sumBy costOf pre)) x.1.cost _ y2 y4 hNw).mono ?_
    rintro e wn ⟨rfl, hNn, _⟩
    exact HK.out _ _ ⟨by simp [HJ.out.sz], ⟨_, _, _, _, _, _, _, _, rfl, fun h => HP.out.1 (getD_dn (by decide) h), fun h => HP.out.2.1 (getD_dn (by decide) h), fun h => HP.out.2.2.1 (getD_dn (by decide) h), fun h => HP.out.2.2.2.1 (getD_dn (by decide) h), fun h => HP.out.2.2.2.2.1 (getD_dn (by decide) h), fun h => HP.out.2.2.2.2.2.1 (getD_dn (by decide) h), fun h => HP.out.2.2.2.2.2.2.1 (getD_dn (by decide) h), fun _ => rfl⟩, fun _ => ⟨getD_up hun (HJ.out.d3 HALL.out.2.2).1, getD_up hun (HJ.out.d3 HALL.out.2.2).2, getD_up hun HALL.out.2.2, getD_up hun HALL.out.1, getD_up hun HALL.out.2.1⟩, fun h => getD_up hun (HJ.out.d8 (getD_dn (by decide) h)), fun h => getD_up hun (HJ.out.d9 (getD_dn (by decide) h)), fun h => let k := HJ.out.d3 (getD_dn (by decide) h); ⟨getD_up hun k.1, getD_up hun k.2⟩, fun _ => hNn, fun h _ => (not_on hoff (HJ.out.d8 (getD_dn (by decide) h))).elim, fun h => (not_on hoff (HJ.out.d8 (HJ.out.d9 (getD_dn (by decide) h)))).elim⟩
   ·simp at ho
    subst ho
    have h3x : L.getD 3 false = true := hall { on := 3, ground := Ground.data } (by simp) (by decide)
    have h7x : L.getD 7 false = true := hall { on := 7, ground := Ground.chain } (by simp) (by decide)
    have HALL := hI (And.intro h3x h7x)
    clear hall hi h3x h7x
    have H7 := hI HALL.out.2
    have H3 := hI HALL.out.1
    have HW := hI (HJ.out.wa hoff)
    have e16 := HP.out.2.2.2.1 H3.out
    subst e16
    have gq : Boxed w' w.heap.size 23 (.string (I (sumBy qtyOf pre))) := (HW.out.block _ HQ.out.lt).trans HQ.out
    have cq := gq.cell
    have fq := gq.frozen
    clear gq
    refine wpOpIn_step rfl (fun K' hK' => ?_)
    have HK := hI hK'
    clear hK'
    go_simp
    exact HK.out _ _ ⟨by simp [HJ.out.sz], ⟨_, _, _, _, _, _, _, _, rfl, fun h => HP.out.1 (getD_dn (by decide) h), fun h => HP.out.2.1 (getD_dn (by decide) h), fun h => HP.out.2.2.1 (getD_dn (by decide) h), fun h => HP.out.2.2.2.1 (getD_dn (by decide) h), fun h => HP.out.2.2.2.2.1 (getD_dn (by decide) h), fun h => HP.out.2.2.2.2.2.1 (getD_dn (by decide) h), fun h => HP.out.2.2.2.2.2.2.1 (getD_dn (by decide) h), fun h => HP.out.2.2.2.2.2.2.2 (getD_dn (by decide) h)⟩, fun h => let k := HJ.out.d7 (getD_dn (by decide) h); ⟨getD_up hun k.1, getD_up hun k.2.1, getD_up hun k.2.2.1, getD_up hun k.2.2.2.1, getD_up hun k.2.2.2.2⟩, fun _ => getD_up hun H7.out, fun h => getD_up hun (HJ.out.d9 (getD_dn (by decide) h)), fun h => let k := HJ.out.d3 (getD_dn (by decide) h); ⟨getD_up hun k.1, getD_up hun k.2⟩, fun h => (not_on h (getD_set_same hun)).elim, fun _ _ => ⟨_, HW.out, rfl⟩, fun h => (not_on hoff (HJ.out.d9 (getD_dn (by decide) h))).elim⟩
   ·simp at ho
    subst ho
    have h7x : L.getD 7 false = true := hall { on := 7, ground := Ground.data } (by simp) (by decide)
    have h8x : L.getD 8 false = true := hall { on := 8, ground := Ground.chain } (by simp) (by decide)
    have HALL := hI (And.intro h7x h8x)
    clear hall hi h7x h8x
    have H8 := hI HALL.out.2
    have H7 : Hid (L.getD 7 false = true) := HJ.out.d8 H8.out
    obtain ⟨wn, hWn, rfl⟩ := HJ.out.wb H8.out hoff
    have HW := hI hWn
    have e20 := HP.out.2.2.2.2.2.2.2 H7.out
    subst e20
    have gc : Boxed (wn.setCell ⟨w.heap.size, 0, none⟩ (.string (I (vl (I (sumBy qtyOf pre)) + vl x.1.qty)))) (w.heap.size + 1) 23 (.string (I (sumBy costOf pre))) := Boxed.other ((hWn.block _ HC.out.lt).trans HC.out) (by omega) _
    have cc := gc.cell
    have fc := gc.frozen
    clear gc hWn
    refine wpOpIn_step rfl (fun K' hK' => ?_)
    have HK := hI hK'
    clear hK'
    go_simp
    exact HK.out _ _ ⟨by simp [HJ.out.sz], ⟨_, _, _, _, _, _, _, _, rfl, fun h => HP.out.1 (getD_dn (by decide) h), fun h => HP.out.2.1 (getD_dn (by decide) h), fun h => HP.out.2.2.1 (getD_dn (by decide) h), fun h => HP.out.2.2.2.1 (getD_dn (by decide) h), fun h => HP.out.2.2.2.2.1 (getD_dn (by decide) h), fun h => HP.out.2.2.2.2.2.1 (getD_dn (by decide) h), fun h => HP.out.2.2.2.2.2.2.1 (getD_dn (by decide) h), fun h => HP.out.2.2.2.2.2.2.2 (getD_dn (by decide) h)⟩, fun h => let k := HJ.out.d7 (getD_dn (by decide) h); ⟨getD_up hun k.1, getD_up hun k.2.1, getD_up hun k.2.2.1, getD_up hun k.2.2.2.1, getD_up hun k.2.2.2.2⟩, fun h => getD_up hun (HJ.out.d8 (getD_dn (by decide) h)), fun _ => getD_up hun H8.out, fun h => let k := HJ.out.d3 (getD_dn (by decide) h); ⟨getD_up hun k.1, getD_up hun k.2⟩, fun h => (not_on (getD_df (by decide) h) H8.out).elim, fun _ h' => (not_on h' (getD_set_same hun)).elim, fun _ => ⟨_, HW.out, rfl⟩⟩
 case done =>
  rintro D xs W hD rfl ⟨⟨hq, hc⟩, hB⟩ hK
  have cq := hq.cell
  have cc := hc.cell
  gi_wp2
  gi_region
  all_goals gi_wp2
  all_goals refine ⟨by simp, .inl ⟨_, _, rfl, run_takeDeferred hK, ?_⟩⟩
  all_goals exact ⟨_, results_tmp2 rfl _ _ _, rfl, hB.trans ((Below.refl _ W).drew.trans (belowK_b (w := w) (Nat.le_refl _) W.drew D _ _ (by omega) hK rfl rfl))⟩
 case stop =>
  rintro D c pre W _ _ h _
  exact h.elim
end Go.Proofs.YtbkmhmaldljgmaaGreatDoor
namespace Go.Proofs.YtbkmhmaldljgmaaGreatDoor
open Go.RowKit Tr Go.Shelf
attribute [local go_sem] Oper.semAt_some
def qB : Nat := 4000
abbrev SQ := { q : Rat // BdQ q qB }
def encQ (x : SQ) : Array Value := #[fenc x.1]
structure ExOk (i : Inst) (d : Int) : Prop where
 s1 : i.fn.size ≤ 1000
 s2 : i.fd.size ≤ 1000
 dy : okDay d
 mt : i.kind = 2 → okDay i.matures
theorem exact_any (i : Inst) (l : Lot) (d : Int) (h : ExOk i d) (hs : l.sized) (ho : okDay l.opn) (w : World) (ht : Tabs w) :
 Calls Tryz.prog 174 #[i.enc, l.enc, .int .i64 d] w fun e w' => e = .returned (fenc (exactQ i l d)) ∧ Below w.heap.size w w' := by
 by_cases hz : i.kind ≠ 2 ∨ d < l.opn
 ·exact exact_zero i l d hz w
 ·have hk : i.kind = 2 := by
   rcases Decidable.em (i.kind = 2) with e | e
   ·exact e
   ·exact absurd (.inl e) hz
  exact exact_some i l d hk (by omega) h.s1 h.s2 hs.2.2.1 hs.2.2.2.1 h.dy ho (h.mt hk) w ht
theorem exact_bd (i : Inst) (l : Lot) (d : Int) (h : ExOk i d) (hs : l.sized) (ho : okDay l.opn) : BdQ (exactQ i l d) qB := by
 obtain ⟨K, hK⟩ : ∃ K, K = 1002 := ⟨_, rfl⟩
 have hq : K + K + K + 1 + 7 ≤ qB := by unfold qB; omega
 have s1 := h.s1
 have s2 := h.s2
 have s3 := hs.2.2.1
 have s4 := hs.2.2.2.1
 have bf : BdQ (fv i.fn i.fd) K := fv_bd _ _ (by omega) (by omega)
 have bq : BdQ (vl l.qty : Rat) K := BdQ.int (Nat.lt_of_lt_of_le (vl_lt _) (pow_mono (by omega))) (by omega)
 have bc : BdQ (vl l.cost : Rat) K := BdQ.int (Nat.lt_of_lt_of_le (vl_lt _) (pow_mono (by omega))) (by omega)
 have ba : BdQ (allQ i l) (K + K + K + 1) := (bf.mul bq).sub bc
 unfold exactQ
 split
 ·exact BdQ.zero (by omega)
 ·rename_i hz
  split
  ·exact ba.mono (by omega)
  ·have hk : i.kind = 2 := by
    rcases Decidable.em (i.kind = 2) with e | e
    ·exact e
    ·exact absurd (.inl e) hz
   have e1 := h.dy
   have e3 := h.mt hk
   unfold okDay at e1 e3 ho
   refine (BdQ.div' (m := 7) ?_ ?_ ?_ ba).mono hq <;> omega
def KpZ (m b : Nat) (W W' : World) : Prop := Below m W W' ∧ ∀ (k : Nat) (o : Obj), k ≠ b → W.heap[k]? = some o → o.isCells = true → W'.heap[k]? = some o
theorem KpZ.trans {m b : Nat} {A B C : World} (h : KpZ m b A B) (k : KpZ m b B C) : KpZ m b A C := ⟨h.1.trans k.1, fun i o hi ho hc => k.2 i o hi (h.2 i o hi ho hc) hc⟩
theorem KpZ.put {m b : Nat} (W : World) (l : Nat) (o o' : Obj) (hm : m ≤ l) (hl : W.heap[l]? = some o) (ho : o.isCells = false) : KpZ m b W (W.putObj l o') := by
 refine ⟨(Below.refl m W).grown (grownBy_putObj' W l o') (by have := (Array.getElem?_eq_some_iff.1 hl).1; omega) (fun k e => by cases e; omega), fun k o2 _ hk hc => ?_⟩
 rcases Nat.decEq k l with h | h
 ·exact (World.putObj_heap_other (by omega)).trans hk
 ·subst h; rw [hl] at hk; injection hk with hk; subst hk; rw [ho] at hc; cases hc
theorem KpZ.below {m b : Nat} {A B : World} (h : Below A.heap.size A B) (hm : m ≤ A.heap.size) : KpZ m b A B := ⟨h.mono hm, fun k o _ hk _ => (h.block k (Array.getElem?_eq_some_iff.1 hk).1).trans hk⟩
theorem KpZ.cell {m b : Nat} {W W' : World} (h : KpZ m b W W') {p : Addr} (hp : p.block ≠ b) {v : Value} (hc : W.cell? p = some v) : W'.cell? p = some v := by
 obtain ⟨o, ho, hoc⟩ := cells_of_cell hc
 have := h.2 _ o hp ho hoc
 rw [← hc]
 unfold World.cell?
 rw [ho, this]
theorem LotAt.keptZ {m b : Nat} {W W' : World} {p : Addr} {l : Lot} (h : LotAt W p l) (hk : KpZ m b W W') (hp : p.block ≠ b) : LotAt W' p l :=
 ⟨hk.cell hp h.c0, hk.cell (p := ⟨p.block, p.off + 1, none⟩) hp h.c1, hk.cell (p := ⟨p.block, p.off + 2, none⟩) hp h.c2, hk.cell (p := ⟨p.block, p.off + 3, none⟩) hp h.c3, hk.cell (p := ⟨p.block, p.off + 4, none⟩) hp h.c4, hk.cell (p := ⟨p.block, p.off + 5, none⟩) hp h.c5, hk.cell (p := ⟨p.block, p.off + 6, none⟩) hp h.c6⟩
theorem grown_of_below {W W' : World} (h : Below W.heap.size W W') : W.grownBy W' none := ⟨h.os, h.tape, h.output, h.size, fun k hk _ => h.block k hk⟩
def RdZ (b : Nat) (w : World) (A : Option Addr) (ls : List SLot) : Prop :=
 ls ≠ [] → ∃ ad : Addr, A = some ad ∧ ad.block ≠ b ∧ ∀ (j : Nat) (l : SLot), ls[j]? = some l → LotAt w (ad.add (j * 7)) l.1
theorem RdZ.kept {m b : Nat} {w w' : World} {A : Option Addr} {ls : List SLot} (h : RdZ b w A ls) (hk : KpZ m b w w') : RdZ b w' A ls := by
 intro hl
 obtain ⟨ad, rfl, h1, h2⟩ := h hl
 exact ⟨ad, rfl, h1, fun j l hj => (h2 j l hj).keptZ hk (by rw [add_block]; exact h1)⟩
theorem amounts1_seq (n n₀ bz bl bi bd : Nat) (A : Option Addr) (ls : List SLot) (c : Nat) (i : Inst) (d : Int) (w : World) (hn : 1 ≤ n) (hlen : ls.length ≤ 99) (h : ExOk i d) (hop : ∀ l ∈ ls, okDay l.1.opn)
 (hbl : Boxed w bl 56 (.slice A ls.length c)) (hbi : InstBox w bi i) (hbd : Boxed w bd 22 (.int .i64 d)) (hR : RdB n₀ w A ls) (hnw : n₀ ≤ w.heap.size) (hz : bz < w.heap.size) (hz1 : bi ≠ bz) (hz2 : bd ≠ bz) (w0 : World) (hb0 : Below w0.heap.size w0 w) (ht : Tabs w0) :
 SeqStopsK Fence.wide n Tryz.prog 173 #[.pointer (some ⟨bl, 0, none⟩), .pointer (some ⟨bi, 0, none⟩), .pointer (some ⟨bd, 0, none⟩)] encQ (KpZ w0.heap.size bz) (fun xs => xs.map Subtype.val = (ownL ls i.id).map fun l => exactQ i l.1 d) (fun _ => True) 100 w := by
 intro l J Jx W hW hJ hJx hY hJ0
 have HJ := hI hJ
 have HY := hI hY
 have HT := hI ht
 have HB0 := hI (hb0.trans (hW.mono hb0.size))
 have hbl' : Boxed W bl 56 (.slice A ls.length c) := (hW.block bl hbl.lt).trans hbl
 have hbi' : InstBox W bi i := hbi.below hW
 have hbd' : Boxed W bd 22 (.int .i64 d) := (hW.block bd hbd.lt).trans hbd
 have HBI := hI hbi'
 have HBD := hI hbd'
 have HOF := hI (lOf_any n₀ A ls c i.id W (by omega) (hR.below (hW.mono hnw)) (Nat.le_trans hnw hW.size))
 have hzW : bz < W.heap.size := Nat.lt_of_lt_of_le hz hW.size
 have cl := hbl'.cell
 have ci := Lib.cell_of_heap hbi' 0
 simp at ci
 have hol : (ownL ls i.id).length ≤ 99 := Nat.le_trans (List.length_filter_le _ _) hlen
 have HOP : Hid (∀ l ∈ ownL ls i.id, okDay l.1.opn) := fun l hl => hop l ((List.mem_filter.1 hl).1)
 have H := hI h
 clear hJ hJx hY hbl hbi hbd hbl' hbi' hbd' hR hW hop h ht hz
 generalize ownL ls i.id = own at HOF hol HOP ⊢
 refine callsIn_of_wp Tryz.func173 rfl trivial ?_ rfl
 simp only [Tryz.ntmps173, List.size_toArray, List.length_cons, List.length_nil, Nat.reduceAdd, Nat.reduceSub, Array.replicate_succ, Array.replicate_zero, List.push_toArray, List.append_toArray, List.nil_append, List.cons_append]
 gi_wp2_with fail
 refine ⟨trivial, ?_⟩
 refine (callsIn_wide.2 HOF.out).mono ?_
 rintro e w1 ⟨A', c', rfl, hc', hfr, hR', hb1⟩
 have HRR : Hid (RdZ bz w1 A' own) := fun hl => by
  obtain ⟨ad, rfl, _, h2⟩ := hR' hl
  exact ⟨ad, rfl, by have := hfr ad rfl; omega, h2⟩
 have HJ1 : Hid (J [] w1) := HJ.out _ _ _ none hJ0 (grown_of_below hb1) (fun r e => by cases e)
 have HI1 := hI (HBI.out.below hb1)
 have HD1 : Hid (Boxed w1 bd 22 (.int .i64 d)) := (hb1.block bd HBD.out.lt).trans HBD.out
 have HB1 := hI (HB0.out.trans (hb1.mono HB0.out.size))
 clear hR' hfr hb1 HBI HBD HB0 cl ci hJ0 HOF
 gi_wp2_with fail
 gi_loopw [12] (fun v wr => ∃ (k : Nat) (pre : List SQ), v = .int .i64 (k : Int) ∧ k ≤ own.length ∧ InstBox wr bi i ∧ Boxed wr bd 22 (.int .i64 d) ∧ RdZ bz wr A' own ∧ Below w0.heap.size w0 wr ∧ pre.map Subtype.val = (own.take k).map (fun l => exactQ i l.1 d) ∧ J pre wr) (fun v _ => own.length - (intOf v).toNat)
 case atStart => exact ⟨0, [], rfl, by omega, HI1.out, HD1.out, HRR.out, HB1.out, rfl, HJ1.out⟩
 case round =>
  obtain ⟨k, pre, rfl, hk, hb, hd, hr, hbb, hpre, hj⟩ := hrel
  clear HI1 HD1 HRR HB1 HJ1
  rcases Nat.lt_or_ge k own.length with hlt | hge
  ·obtain ⟨x, hl⟩ : ∃ x, own[k]? = some x := ⟨_, List.getElem?_eq_getElem hlt⟩
   obtain ⟨ad, rfl, had, hcell⟩ := hr (by intro e; rw [e] at hlt; cases hlt)
   have hcx : decide ((k : Int) < (own.length : Int)) = true := by simp; omega
   obtain ⟨c0, c1, c2, c3, c4, c5, c6⟩ := hcell k x hl
   have hxo := HOP.out x (List.mem_of_getElem? hl)
   have HEX := hI (fun W hW => exact_any i x.1 d H.out x.2 hxo W hW)
   have hbd := exact_bd i x.1 d H.out x.2 hxo
   have HSUC : Hid ((own.take (k + 1)).map (fun l => exactQ i l.1 d) = (own.take k).map (fun l => exactQ i l.1 d) ++ [exactQ i x.1 d]) := by
    rw [Hid, List.take_succ_eq_append_getElem hlt, List.map_append]
    rw [List.getElem?_eq_getElem hlt] at hl
    rw [Option.some.inj hl]; rfl
   have hpl : pre.length < 100 := by
    have := congrArg List.length hpre
    simp at this
    omega
   obtain ⟨W5, hW5⟩ : ∃ W5, wr.alloc (.cells x.1.cells 55) = W5 := ⟨_, rfl⟩
   have k5 : LotBox W5 wr.heap.size x.1 := by rw [← hW5]; exact heap_alloc_new wr _
   have b5 : Below wr.heap.size wr W5 := by rw [← hW5]; exact (Below.refl _ wr).alloc (Nat.le_refl _) _
   have HJ5 : Hid (J pre W5) := HJ.out _ _ _ none hj (grown_of_below b5) (fun r e => by cases e)
   have i5 := hb.below b5
   have d5 : Boxed W5 bd 22 (.int .i64 d) := (b5.block bd hd.lt).trans hd
   have HR5 := hI (hr.kept (KpZ.below (m := w0.heap.size) b5 hbb.size))
   have HB5 := hI (hbb.trans (b5.mono hbb.size))
   obtain ⟨m0, m1, m2, m3, m4, m5, m6⟩ := cells7 k5
   obtain ⟨q0, q1, q2, q3, q4, q5, q6, q7, q8, q9, q10, q11, q12, q13, q14⟩ := cells15 i5
   have cd := d5.cell
   have HI5 := hI i5
   have HD5 := hI d5
   have HPRE := hI hpre
   clear hb hr hj k5 b5 i5 d5 hd hbb hcell hl hpre
   unfold Lot.cells at hW5
   dsimp only [Inst.enc, Inst.cells, Lot.enc, Lot.cells] at HEX
   gi_wp2_with fail
   refine ⟨trivial, ?_⟩
   refine (callsIn_wide.2 (HEX.out _ (HT.out.below HB5.out))).mono ?_
   rintro e w6 ⟨rfl, b6⟩
   have HJ6 : Hid (J pre w6) := HJ.out _ _ _ none HJ5.out (grown_of_below b6) (fun r e => by cases e)
   have HI6 := hI (HI5.out.below b6)
   have HD6 : Hid (Boxed w6 bd 22 (.int .i64 d)) := (b6.block bd HD5.out.lt).trans HD5.out
   have HR6 := hI (HR5.out.kept (KpZ.below (m := w0.heap.size) b6 HB5.out.size))
   have HB6 := hI (HB5.out.trans (b6.mono HB5.out.size))
   clear b6 HJ5 HI5 HD5 HR5 HB5 HEX
   clear c0 c1 c2 c3 c4 c5 c6 m0 m1 m2 m3 m4 m5 m6 q0 q1 q2 q3 q4 q5 q6 q7 q8 q9 q10 q11 q12 q13 q14 cd hW5
   obtain ⟨fn, tmps, assign, body, hy, hR⟩ := HY.out pre ⟨exactQ i x.1 d, hbd⟩ w6 HJ6.out hpl
   dsimp only [encQ] at hy
   have HRD := hI hR
   clear hR
   generalize exactQ i x.1 d = rq at *
   gi_wp2
   refine HRD.out.mono ?_
   rintro e W7 (⟨rfl, hj7, hk7⟩ | ⟨rfl, hjx⟩)
   ·have HI7 : Hid (InstBox W7 bi i) := hk7.2 _ _ hz1 HI6.out rfl
    have HD7 : Hid (Boxed W7 bd 22 (.int .i64 d)) := hk7.2 _ _ hz2 HD6.out rfl
    have HR7 := hI (HR6.out.kept hk7)
    have HB7 := hI (HB6.out.trans hk7.1)
    have HJ7 := hI hj7
    clear hj7 hk7
    gi_wp2
    go_roundw
    case rel => exact ⟨k + 1, _, by go_num, by omega, HI7.out, HD7.out, HR7.out, HB7.out, by rw [List.map_append, HPRE.out, HSUC.out]; rfl, HJ7.out⟩
    case measure => simp [intOf]; omega
   ·gi_wp2
    refine bodyPost_ret (results_none rfl _ _ _) rfl ?_
    exact ⟨⟨_, rfl⟩, .inr ⟨_, trivial, hjx⟩⟩
  ·have hcx : decide ((k : Int) < (own.length : Int)) = false := by simp; omega
   have HPRE := hI hpre
   clear hpre
   gi_wp2
   go_end0
   refine ⟨⟨_, rfl⟩, .inl ⟨pre, ?_, hj⟩⟩
   rw [HPRE.out, List.take_of_length_le (by omega)]
theorem amounts_any (i : Inst) (A : Option Addr) (k c : Nat) (d : Int) (w : World) :
 Calls Tryz.prog 128 #[i.enc, .slice A k c, .int .i64 d] w fun e w' => e = .returned (.func (.func 173) #[] #[.pointer (some ⟨w.heap.size + 1, 0, none⟩), .pointer (some ⟨w.heap.size, 0, none⟩), .pointer (some ⟨w.heap.size + 1 + 1, 0, none⟩)]) ∧ w' = ((w.alloc (.cells i.cells 27)).alloc (.cells #[.slice A k c] 56)).alloc (.cells #[.int .i64 d] 22) := by
 go_enter Tryz.func128, Tryz.ntmps128
 go_wp2_with fail
 go_ret
 exact ⟨rfl, rfl⟩
end Go.Proofs.YtbkmhmaldljgmaaGreatDoor
namespace Go.Proofs.YtbkmhmaldljgmaaGreatDoor
open Go.RowKit Tr Go.Shelf
attribute [local go_sem] Oper.semAt_some
def qsum (l : List Rat) : Rat := l.foldl (fun a b => a + b) 0
theorem qsum_snoc (l : List Rat) (q : Rat) : qsum (l ++ [q]) = qsum l + q := by simp [qsum]
theorem qsum_bd (l : List SQ) : BdQ (qsum (l.map Subtype.val)) (l.length * (qB + 1) + 1) := by
 have h : ∀ (r : List SQ) (z : Rat) (k : Nat), BdQ z k → BdQ ((r.map Subtype.val).foldl (fun a b => a + b) z) (k + r.length * (qB + 1)) := by
  intro r
  induction r with
  | nil => intro z k hz; simpa using hz
  | cons x r ih =>
    intro z k hz
    have := ih (z + x.1) (k + qB + 1) (hz.add x.2)
    simp only [List.map_cons, List.foldl_cons, List.length_cons]
    exact this.mono (by rw [Nat.add_mul]; omega)
 have := h l 0 1 (BdQ.zero (Nat.le_refl _))
 unfold qsum
 exact this.mono (by omega)
theorem cells_own {β : Type} (B : Nat) (t : TypeId) (f : β → Array Value) : Own (fun s W => W.heap[B]? = some (.cells (f s) t (0, 0))) := fun s X Y row hs hg hrow =>
 (hg.block B (Array.getElem?_eq_some_iff.1 hs).1 (fun e => by obtain ⟨o, ho, hc⟩ := hrow B e.symm; rw [hs] at ho; cases ho; cases hc)).trans hs
theorem fenc_z0 : fenc 0 = .agg #[.string ⟨#[]⟩, .string ⟨#[]⟩] := rfl
theorem asum_any (n₀ bl bi bd : Nat) (A : Option Addr) (ls : List SLot) (c : Nat) (i : Inst) (d : Int) (w : World) (hlen : ls.length ≤ 99) (h : ExOk i d) (hop : ∀ l ∈ ls, okDay l.1.opn)
 (hbl : Boxed w bl 56 (.slice A ls.length c)) (hbi : InstBox w bi i) (hbd : Boxed w bd 22 (.int .i64 d)) (hR : RdB n₀ w A ls) (hnw : n₀ ≤ w.heap.size) (ht : Tabs w) :
 Calls Tryz.prog 127 #[fenc 0, .func (.func 173) #[] #[.pointer (some ⟨bl, 0, none⟩), .pointer (some ⟨bi, 0, none⟩), .pointer (some ⟨bd, 0, none⟩)], .func (.func 129) #[] #[]] w
  fun e w' => e = .returned (fenc (qsum ((ownL ls i.id).map fun l => exactQ i l.1 d))) ∧ Below w.heap.size w w' := by
 have HT := hI ht
 obtain ⟨rq, hrq⟩ : ∃ rq, rq = qsum ((ownL ls i.id).map fun l => exactQ i l.1 d) := ⟨_, rfl⟩
 rw [← hrq]
 have HRQ := hI hrq
 clear hrq
 refine (callsIn_wide (n := 8)).1 ?_
 refine callsIn_of_wp_marks Tryz.func127 rfl trivial ?_ rfl
 simp only [Tryz.ntmps127, List.size_toArray, List.length_cons, List.length_nil, Nat.reduceAdd, Nat.reduceSub, Array.replicate_succ, Array.replicate_zero, List.push_toArray, List.append_toArray, List.nil_append, List.cons_append]
 rw [fenc_z0]
 gi_wp2
 obtain ⟨W0, hW0', hb0, hsz, k0, k1, k2⟩ := box3 w (.cells #[.string ⟨#[]⟩, .string ⟨#[]⟩] 25) (.cells #[.func (.func 129) #[] #[]] 170) (.cells #[.string ⟨#[]⟩, .string ⟨#[]⟩] 25)
 rw [← hW0']
 have hbl0 : Boxed W0 bl 56 (.slice A ls.length c) := (hb0.block bl hbl.lt).trans hbl
 have hbi0 : InstBox W0 bi i := hbi.below hb0
 have hbd0 : Boxed W0 bd 22 (.int .i64 d) := (hb0.block bd hbd.lt).trans hbd
 have hlbd := hbd.lt
 have hlbi : bi < w.heap.size := (Array.getElem?_eq_some_iff.1 hbi).1
 refine wpIn_rangeFunc_ownH (α := SQ) rfl (by omega) (gf := 173) (lb := #[.pointer (some ⟨bl, 0, none⟩), .pointer (some ⟨bi, 0, none⟩), .pointer (some ⟨bd, 0, none⟩)]) rfl trivial (enters_of Tryz.func173 (by kernel_rfl) rfl)
  (amounts1_seq (8 - 1) n₀ w.heap.size bl bi bd A ls c i d W0 (by omega) hlen h hop hbl0 hbi0 hbd0 (hR.below (hb0.mono hnw)) (by omega) (by omega) (by omega) (by omega) w hb0 ht) KpZ.trans (fun W l o o' hl h hc _ => KpZ.put W l o o' (by omega) h hc) (Below.refl _ _) (fun _ => rfl)
  (fun pre W => ((W.heap[w.heap.size]? = some (.cells #[.string (I (qsum (pre.map Subtype.val)).num), .string (dn (qsum (pre.map Subtype.val)))] 25 (0, 0)) ∧ W.heap[w.heap.size + 1]? = some (.cells #[.func (.func 129) #[] #[]] 170 (0, 0))) ∧ W.heap[w.heap.size + 1 + 1]? = some (.cells #[.string ⟨#[]⟩, .string ⟨#[]⟩] 25 (0, 0))) ∧ Below w.heap.size w W) (fun _ _ _ => False)
  (OwnFrom.and (OwnFrom.and (OwnFrom.and ((cells_own _ _ (fun (pre : List SQ) => #[.string (I (qsum (pre.map Subtype.val)).num), .string (dn (qsum (pre.map Subtype.val)))])).from _) ((cells_own _ _ (fun (_ : List SQ) => _)).from _)) ((cells_own _ _ (fun (_ : List SQ) => _)).from _)) (ownFrom_below (Nat.le_refl _) (by omega)))
  (fun _ => ownFrom_pure _ _) ⟨⟨⟨k0, k1⟩, k2⟩, hb0⟩
  (fun x a' W => ∃ Bx, w.heap.size + 1 + 1 < Bx ∧ FBox W Bx x.1 ∧ a' = { tmps := #[Value.agg #[Value.string { data := #[] }, Value.string { data := #[] }], Value.func (Fn.func 173) #[] #[Value.pointer (some { block := bl, off := 0 }), Value.pointer (some { block := bi, off := 0 }), Value.pointer (some { block := bd, off := 0 })], Value.func (Fn.func 129) #[] #[], Value.pointer (some { block := w.heap.size, off := 0 }), undef, Value.pointer (some { block := w.heap.size + 1, off := 0 }), Value.pointer (some { block := w.heap.size + 1 + 1, off := 0 }), Value.pointer (some { block := Bx, off := 0 }), Value.func (Fn.func 173) #[] #[Value.pointer (some { block := bl, off := 0 }), Value.pointer (some { block := bi, off := 0 }), Value.pointer (some { block := bd, off := 0 })], fenc x.1, undef, undef, undef, undef, undef], defers := [] })
  (fun x a' => ?hAx) ?assign ?body ?done ?stop
 case hAx =>
  rintro _ X Y row ⟨Bx, hB, hx, rfl⟩ hg hr
  refine ⟨Bx, hB, (hg.block Bx hx.lt (fun e => ?_)).trans hx, rfl⟩
  obtain ⟨_, o, ho, hc⟩ := hr Bx e.symm
  rw [show X.heap[Bx]? = _ from hx] at ho; cases ho; cases hc
 case assign =>
  rintro l pre x W K ⟨⟨⟨h0, h1⟩, h2⟩, hB⟩ hK
  have hlt : w.heap.size + 1 + 1 < W.heap.size := (Array.getElem?_eq_some_iff.1 h2).1
  obtain ⟨W5, hW5⟩ : ∃ W5, W.alloc (.cells #[.string (I x.1.num), .string (dn x.1)] 25) = W5 := ⟨_, rfl⟩
  have b5 : Below W.heap.size W W5 := by rw [← hW5]; exact (Below.refl _ W).alloc (Nat.le_refl _) _
  have HF : Hid (FBox W5 W.heap.size x.1 ∧ KeepsFrom W0.heap.size W W5 ∧ KpZ w.heap.size w.heap.size W W5 ∧ Below W.heap.size W W5) :=
   ⟨by rw [← hW5]; exact heap_alloc_new W _, by rw [← hW5]; exact (KeepsOthers.alloc _ _).from _, KpZ.below b5 hB.size, b5⟩
  have H0 := hI h0
  have H1 := hI h1
  have H2 := hI h2
  clear b5 h0 h1 h2
  dsimp only [encQ, fenc] at hW5 ⊢
  gi_wp2
  obtain ⟨f1, f2, f3, f4⟩ := HF.out
  exact hK _ _ f2 f3 ⟨⟨⟨(f4.block _ (by omega)).trans H0.out, (f4.block _ (by omega)).trans H1.out⟩, (f4.block _ (by omega)).trans H2.out⟩, hB.trans (f4.mono hB.size)⟩ ⟨W.heap.size, hlt, f1, rfl⟩
 case body =>
  rintro l pre x a' W hl ⟨r, hr⟩ ⟨⟨⟨h0, h1⟩, h2⟩, hB⟩ ⟨Bx, hBx, bX, rfl⟩ hlt
  have hbq := qsum_bd pre
  have HAD := hI (fun W hW => fAddQ hbq x.2 (by have : pre.length * (qB + 1) ≤ 100 * (qB + 1) := Nat.mul_le_mul_right _ (by omega); unfold qB at *; omega) (by unfold qB; omega) W hW)
  have HSN : Hid (qsum ((pre ++ [x]).map Subtype.val) = qsum (pre.map Subtype.val) + x.1) := by rw [Hid, List.map_append]; exact qsum_snoc _ _
  generalize qsum (pre.map Subtype.val) = qp at *
  have HX1 := x.2
  generalize hxr : x.1 = rx at *
  have c0 := Lib.cell_of_heap h0 0
  have c1 := Lib.cell_of_heap h0 1
  have c2 := Lib.cell_of_heap h1 0
  have c3 := Lib.cell_of_heap bX 0
  have c4 := Lib.cell_of_heap bX 1
  simp at c0 c1 c2 c3 c4
  have H0 := hI h0
  have H1 := hI h1
  have H2 := hI h2
  clear h0 h1 h2 bX hr hxr hbq HX1
  unfold fenc at HAD
  dsimp only [fenc]
  gi_wp2_with fail
  refine ⟨trivial, ?_⟩
  refine (CallsIn.inRound l (callsIn_wide.2 (HAD.out _ (HT.out.below hB)))).mono ?_
  rintro e w5 ⟨rfl, b5⟩
  have g0 := (b5.block _ (Array.getElem?_eq_some_iff.1 H0.out).1).trans H0.out
  have g1 := (b5.block _ (Array.getElem?_eq_some_iff.1 H1.out).1).trans H1.out
  have g2 := (b5.block _ (Array.getElem?_eq_some_iff.1 H2.out).1).trans H2.out
  have e0 := Lib.cell_of_heap g0 0
  have e1 := Lib.cell_of_heap g0 1
  have e2 := Lib.frozen_of_heap g0 0
  have e3 := Lib.frozen_of_heap g0 1
  simp at e0 e1 e2 e3
  have G0 := hI g0
  have G1 := hI g1
  have G2 := hI g2
  have B5 := hI b5
  clear g0 g1 g2 b5 c0 c1 c2 c3 c4
  gi_wp2
  have hbw := hB.size
  refine ⟨?_, ⟨((B5.out.mono hbw).setCell (p := ⟨w.heap.size, 0, none⟩) (Nat.le_refl _) _).setCell (p := ⟨w.heap.size, 1, none⟩) (Nat.le_refl _) _, fun k o hk ho _ => ?_⟩, ⟨⟨?_, ?_⟩, ?_⟩, hB.trans (((B5.out.mono hbw).setCell (p := ⟨w.heap.size, 0, none⟩) (Nat.le_refl _) _).setCell (p := ⟨w.heap.size, 1, none⟩) (Nat.le_refl _) _)⟩
  ·exact KeepsFrom.trans ⟨B5.out.size, fun k o _ hk _ => (B5.out.block k (Array.getElem?_eq_some_iff.1 hk).1).trans hk⟩ (KeepsFrom.trans ((KeepsOthers.setCell _ _ _).from _) ((KeepsOthers.setCell _ _ _).from _))
  ·exact ((Below.heap_setCell _ _ _ _ hk).trans (Below.heap_setCell _ _ _ _ hk)).trans ((B5.out.block k (Array.getElem?_eq_some_iff.1 ho).1).trans ho)
  ·rw [HSN.out]; exact set2 G0.out _ _
  ·exact ((Below.heap_setCell _ _ _ _ (by simp)).trans (Below.heap_setCell _ _ _ _ (by simp))).trans G1.out
  ·exact ((Below.heap_setCell _ _ _ _ (by simp; omega)).trans (Below.heap_setCell _ _ _ _ (by simp; omega))).trans G2.out
 case done =>
  rintro D xs W hD hxs ⟨⟨⟨h0, h1⟩, h2⟩, hB⟩ hK
  rw [hxs, ← HRQ.out] at h0
  have c0 := Lib.cell_of_heap h0 0
  have c1 := Lib.cell_of_heap h0 1
  have c2 := Lib.cell_of_heap h2 0
  have c3 := Lib.cell_of_heap h2 1
  have f2 := Lib.frozen_of_heap h2 0
  have f3 := Lib.frozen_of_heap h2 1
  simp at c0 c1 c2 c3 f2 f3
  have H2 := hI h2
  have HK := hI hK
  clear h0 h1 h2 hxs hK
  gi_wp2
  have hK2 := (KeepsOthers.setCell _ ⟨w.heap.size + 1 + 1, 1, none⟩ (.string (dn rq))).same D _ ((KeepsOthers.setCell W ⟨w.heap.size + 1 + 1, 0, none⟩ (.string (I rq.num))).same D _ HK.out rfl) rfl
  refine ⟨by simp, .inl ⟨_, _, rfl, run_takeDeferred hK2, ?_⟩⟩
  have hDlt : w.heap.size + 1 + 1 < D := by omega
  have q3 : Below w.heap.size w (((W.setCell ⟨w.heap.size + 1 + 1, 0, none⟩ (.string (I rq.num))).setCell ⟨w.heap.size + 1 + 1, 1, none⟩ (.string (dn rq))).putObj D (.deferred none)) :=
   ((hB.setCell (p := ⟨w.heap.size + 1 + 1, 0, none⟩) (by simp; omega) _).setCell (p := ⟨w.heap.size + 1 + 1, 1, none⟩) (by simp; omega) _).trans (belowK_b (w := w) (Nat.le_refl _) _ D _ _ (by omega) hK2 rfl rfl)
  have k6 : (((W.setCell ⟨w.heap.size + 1 + 1, 0, none⟩ (.string (I rq.num))).setCell ⟨w.heap.size + 1 + 1, 1, none⟩ (.string (dn rq))).putObj D (.deferred none)).heap[w.heap.size + 1 + 1]? = some (.cells #[.string (I rq.num), .string (dn rq)] 25 (0, 0)) :=
   (World.putObj_heap_other (by omega)).trans (set2 H2.out _ _)
  generalize ((W.setCell ⟨w.heap.size + 1 + 1, 0, none⟩ (.string (I rq.num))).setCell ⟨w.heap.size + 1 + 1, 1, none⟩ (.string (dn rq))).putObj D (.deferred none) = W9 at q3 k6 ⊢
  have m0 := Lib.cell_of_heap k6 0
  have m1 := Lib.cell_of_heap k6 1
  simp at m0 m1
  exact ⟨.agg #[.string (I rq.num), .string (dn rq)], by simp [results, Tryz.results127, go_sem, m0, m1], rfl, q3⟩
 case stop =>
  rintro D c pre W _ _ h _
  exact h.elim
end Go.Proofs.YtbkmhmaldljgmaaGreatDoor
namespace Go.Proofs.YtbkmhmaldljgmaaGreatDoor
open Go.RowKit Tr Go.Shelf
structure Inst.small (i : Inst) : Prop where
 id : i.id.size ≤ 1000
 cur : i.cur.size ≤ 1000
 fn : i.fn.size ≤ 1000
 fd : i.fd.size ≤ 1000
 cn : i.cn.size ≤ 1000
 cd : i.cd.size ≤ 1000
 other : i.other.size ≤ 1000
 sn : i.sn.size ≤ 1000
 sd : i.sd.size ≤ 1000
theorem Inst.small.sized {i : Inst} (h : i.small) : i.sized := by
 obtain ⟨h1, h2, h3, h4, h5, h6, h7, h8, h9⟩ := h
 exact ⟨by omega, by omega, by omega, by omega, by omega, by omega, by omega, by omega, by omega⟩
structure AOk (i : Inst) (ls : List SLot) (d : Int) : Prop where
 small : i.small
 ok : i.ok
 lots : LotsOk (ls.map Subtype.val)
 len : ls.length ≤ 99
 dy : okDay d
theorem Inst.ok.mt {i : Inst} (h : i.ok) (hk : i.kind = 2) : okDay i.matures := (h.matures.resolve_left (fun x => x.2.1 hk)).2.1
theorem AOk.ex {i : Inst} {ls : List SLot} {d : Int} (h : AOk i ls d) : ExOk i d := ⟨h.small.fn, h.small.fd, h.dy, h.ok.mt⟩
theorem AOk.opn {i : Inst} {ls : List SLot} {d : Int} (h : AOk i ls d) : ∀ l ∈ ls, okDay l.1.opn := fun l hl => (h.lots.ok l.1 (List.mem_map.2 ⟨l, hl, rfl⟩)).2.opn
theorem RdB.rdl {n₀ : Nat} {w : World} {A : Option Addr} {ls : List SLot} (h : RdB n₀ w A ls) (hn : n₀ ≤ w.heap.size) : RdL w A (ls.map Subtype.val) := by
 intro hl
 obtain ⟨ad, rfl, h1, h2⟩ := h (fun e => hl (by rw [e]; rfl))
 refine ⟨ad, rfl, by omega, fun j l hj => ?_⟩
 rw [List.getElem?_map] at hj
 obtain ⟨x, hx, rfl⟩ := Option.map_eq_some_iff.1 hj
 exact h2 j x hx
theorem acheck_ok (n₀ : Nat) (i : Inst) (A : Option Addr) (ls : List SLot) (c : Nat) (hc : ls.length ≤ c) (d : Int) (h : AOk i ls d) (w : World) (hR : RdB n₀ w A ls) (hn : n₀ ≤ w.heap.size) (ht : Tabs w) :
 Calls Tryz.prog 125 #[i.enc, .slice A ls.length c, .int .i64 d] w fun e w' => e = .returned (.int .i64 0) ∧ Below w.heap.size w w' := by
 obtain ⟨W0, hW0, hB0, hz, hk⟩ := ibox i w
 obtain ⟨c0, c1, c2, c3, c4, c5, c6, c7, c8, c9, c10, c11, c12, c13, c14⟩ := cells15 hk
 have HT := hI ht
 have HB0 := hI hB0
 have HC1 := hI (iCheck_ok i h.small.sized h.ok W0 (ht.below hB0))
 have HC2 := hI (fun W (hb : Below w.heap.size w W) => lCheckAll_ok A c (ls.map Subtype.val) (by rw [List.length_map]; exact hc) W ((hR.below (hb.mono hn)).rdl (Nat.le_trans hn hb.size)) h.lots (ht.below hb))
 rw [List.length_map] at HC2
 have HV := hI (fun W => avalid_any d W)
 rw [decide_eq_true h.dy] at HV
 clear h hR ht hB0 hk hz
 unfold Inst.enc Inst.cells at *
 go_enter Tryz.func125, Tryz.ntmps125
 go_wp2_with fail
 refine HC1.out.mono ?_
 rintro e w1 ⟨rfl, b1⟩
 have B1 := HB0.out.trans (b1.mono HB0.out.size)
 clear b1
 clear c0 c1 c2 c3 c4 c5 c6 c7 c8 c9 c10 c11 c12 c13 c14
 go_wp2_with fail
 refine (HC2.out _ B1).mono ?_
 rintro e w2 ⟨rfl, b2⟩
 have B2 := B1.trans (b2.mono B1.size)
 clear b2 B1
 go_wp2_with fail
 refine (HV.out _).mono ?_
 rintro e w3 ⟨rfl, rfl⟩
 go_wp2_with fail
 go_ret
 exact ⟨rfl, B2⟩
theorem aTotal_ok (n₀ : Nat) (i : Inst) (A : Option Addr) (ls : List SLot) (c : Nat) (hc : ls.length ≤ c) (d : Int) (h : AOk i ls d) (w : World) (hR : RdB n₀ w A ls) (hn : n₀ ≤ w.heap.size) (ht : Tabs w) :
 Calls Tryz.prog 74 #[i.enc, .slice A ls.length c, .int .i64 d] w fun e w' => e = .returned (.tuple #[.string (I (rnd (qsum ((ownL ls i.id).map fun l => exactQ i l.1 d)))), .int .i64 0]) ∧ Below w.heap.size w w' := by
 obtain ⟨W0, hW0, hB0, hz, hk⟩ := ibox i w
 obtain ⟨c0, c1, c2, c3, c4, c5, c6, c7, c8, c9, c10, c11, c12, c13, c14⟩ := cells15 hk
 have HT := hI ht
 have HB0 := hI hB0
 have HK0 : Hid (InstBox W0 w.heap.size i) := hk
 have HC1 := hI (acheck_ok n₀ i A ls c hc d h W0 (hR.below (hB0.mono hn)) (Nat.le_trans hn hB0.size) (ht.below hB0))
 have HS := hI (fun (W : World) bl bi bd (hb : Below w.heap.size w W) (k0 : Boxed W bl 56 (.slice A ls.length c)) (k1 : InstBox W bi i) (k2 : Boxed W bd 22 (.int .i64 d)) => asum_any n₀ bl bi bd A ls c i d W h.len h.ex h.opn k0 k1 k2 (hR.below (hb.mono hn)) (Nat.le_trans hn hb.size) (ht.below hb))
 have hbd : BdQ (qsum ((ownL ls i.id).map fun l => exactQ i l.1 d)) (100 * (qB + 1) + 1) := by
  have e : ((ownL ls i.id).map fun l => exactQ i l.1 d) = ((ownL ls i.id).attach.map (fun l => (⟨exactQ i l.1.1 d, exact_bd i l.1.1 d h.ex l.1.2 (h.opn _ (List.mem_filter.1 l.2).1)⟩ : SQ))).map Subtype.val := by
   rw [List.map_map]
   conv => lhs; rw [← List.attach_map_subtype_val (ownL ls i.id), List.map_map]
   rfl
  rw [e]
  refine (qsum_bd _).mono ?_
  rw [List.length_map, List.length_attach]
  have : (ownL ls i.id).length ≤ 99 := Nat.le_trans (List.length_filter_le _ _) h.len
  have := Nat.mul_le_mul_right (qB + 1) (show (ownL ls i.id).length ≤ 100 by omega)
  omega
 have HR := hI (fun W hW => roundQ hbd (by unfold qB; omega) W hW)
 generalize qsum ((ownL ls i.id).map fun l => exactQ i l.1 d) = rq at HS HR ⊢
 clear hbd h hR ht hB0 hk hz
 unfold Inst.enc Inst.cells at *
 go_enter Tryz.func74, Tryz.ntmps74
 go_wp2_with fail
 refine HC1.out.mono ?_
 rintro e w1 ⟨rfl, b1⟩
 have HB1 := hI (HB0.out.trans (b1.mono HB0.out.size))
 have hk1 := HK0.out.below b1
 clear c0 c1 c2 c3 c4 c5 c6 c7 c8 c9 c10 c11 c12 c13 c14
 obtain ⟨c0, c1, c2, c3, c4, c5, c6, c7, c8, c9, c10, c11, c12, c13, c14⟩ := cells15 hk1
 have HK1 := hI hk1
 clear b1 hk1 HB0 HK0 HC1 hW0
 have HAM := hI (amounts_any i A ls.length c d w1)
 unfold Inst.enc Inst.cells at HAM
 go_wp2_with fail
 refine HAM.out.mono ?_
 rintro e w2 ⟨rfl, hw2⟩
 obtain ⟨W2, hW2, hb2, hs2, k0, k1, k2⟩ := box3 w1 (.cells i.cells 27) (.cells #[.slice A ls.length c] 56) (.cells #[.int .i64 d] 22)
 unfold Inst.cells at hW2
 obtain rfl : W2 = w2 := by rw [hW2, hw2]
 have HB2 := hI (HB1.out.trans (hb2.mono HB1.out.size))
 have HSS := hI (HS.out W2 _ _ _ HB2.out k1 k0 k2)
 clear c0 c1 c2 c3 c4 c5 c6 c7 c8 c9 c10 c11 c12 c13 c14
 clear hw2 hW2 hb2 hs2 k0 k1 k2 HS HAM
 rw [fenc_z0] at HSS
 go_wp2_with fail
 refine HSS.out.mono ?_
 rintro e w3 ⟨rfl, b3⟩
 have HB3 := hI (HB2.out.trans (b3.mono HB2.out.size))
 clear b3 HSS HB2
 go_wp2_with fail
 refine (HR.out _ (HT.out.below HB3.out)).mono ?_
 rintro e w4 ⟨rfl, b4⟩
 have B4 := HB3.out.trans (b4.mono HB3.out.size)
 clear b4
 go_wp2_with fail
 go_ret2
 exact ⟨rfl, B4⟩
theorem aBook_ok (n₀ : Nat) (i : Inst) (A : Option Addr) (ls : List SLot) (c : Nat) (hc : ls.length ≤ c) (d : Int) (h : AOk i ls d) (w : World) (hR : RdB n₀ w A ls) (hn : n₀ ≤ w.heap.size) (ht : Tabs w) (z1 : (I (rnd (qsum ((ownL ls i.id).map fun l => exactQ i l.1 d)))).size ≤ 4000000) :
 Calls Tryz.prog 42 #[i.enc, .slice A ls.length c, .int .i64 d] w fun e w' => e = .returned (.tuple #[.string (I (sumBy costOf (ownL ls i.id) + rnd (qsum ((ownL ls i.id).map fun l => exactQ i l.1 d)))), .int .i64 0]) ∧ Below w.heap.size w w' := by
 obtain ⟨W0, hW0, hB0, hz, hk⟩ := ibox i w
 obtain ⟨c0, c1, c2, c3, c4, c5, c6, c7, c8, c9, c10, c11, c12, c13, c14⟩ := cells15 hk
 have HT := hI ht
 have HB0 := hI hB0
 have HK0 : Hid (InstBox W0 w.heap.size i) := hk
 have HC1 := hI (aTotal_ok n₀ i A ls c hc d h W0 (hR.below (hB0.mono hn)) (Nat.le_trans hn hB0.size) (ht.below hB0))
 have HC2 := hI (fun W (hb : Below w.heap.size w W) => lTotal_any n₀ A ls c i.id W (by have := h.len; omega) (hR.below (hb.mono hn)) (Nat.le_trans hn hb.size) (ht.below hb))
 obtain ⟨K, hK⟩ : ∃ K, K = 1000 := ⟨_, rfl⟩
 have zc := sumBy_size (cost_lt hK) (ownL ls i.id) (by have : (ownL ls i.id).length ≤ 99 := Nat.le_trans (List.length_filter_le _ _) h.len; omega)
 have zc' : (I (sumBy costOf (ownL ls i.id))).size ≤ 4000000 := by omega
 have HAD := hI (fun W hW => Add_any (I (sumBy costOf (ownL ls i.id))) (I (rnd (qsum ((ownL ls i.id).map fun l => exactQ i l.1 d)))) W (by omega) (by omega) hW)
 rw [vl_I, vl_I] at HAD
 generalize sumBy costOf (ownL ls i.id) = sc at *
 generalize sumBy qtyOf (ownL ls i.id) = sq at *
 generalize rnd (qsum ((ownL ls i.id).map fun l => exactQ i l.1 d)) = rq at *
 clear h hR ht hB0 hk hz zc hK
 unfold Inst.enc Inst.cells at *
 go_enter Tryz.func42, Tryz.ntmps42
 go_wp2_with fail
 refine HC1.out.mono ?_
 rintro e w1 ⟨rfl, b1⟩
 have HB1 := hI (HB0.out.trans (b1.mono HB0.out.size))
 have hk1 := HK0.out.below b1
 clear c0 c1 c2 c3 c4 c5 c6 c7 c8 c9 c10 c11 c12 c13 c14
 have c0 := Lib.cell_of_heap hk1 0
 simp at c0
 clear b1 hk1 HB0 HK0 HC1 hW0
 go_wp2_with fail
 refine (HC2.out _ HB1.out).mono ?_
 rintro e w2 ⟨rfl, b2⟩
 have HB2 := hI (HB1.out.trans (b2.mono HB1.out.size))
 clear b2 HB1 c0
 go_wp2_with fail
 refine (HAD.out _ (HT.out.below HB2.out)).mono ?_
 rintro e w3 ⟨rfl, b3⟩
 have B3 := HB2.out.trans (b3.mono HB2.out.size)
 clear b3
 go_wp2_with fail
 go_ret2
 exact ⟨rfl, B3⟩
end Go.Proofs.YtbkmhmaldljgmaaGreatDoor
