/-
  The walk of accrual.exact, the rest.
  A region that draws its order, inside a fence, by an invariant over what has come up.
-/
import Derived.Test.YtpgjmdggblnfkaaGreatDoorE31
set_option linter.unusedVariables false
set_option linter.unusedSimpArgs false
namespace Go.Proofs.YtpgjmdggblnfkaaGreatDoor
open Go.RowKit Tr Go.Shelf

/-- a box with a fraction -/
def FBox (W : World) (B : Nat) (q : Rat) : Prop := W.heap[B]? = some (.cells #[.string (I q.num), .string (dn q)] 25 (0, 0))
theorem FBox.below {W W' : World} {B : Nat} {q : Rat} (h : FBox W B q) (hb : Below W.heap.size W W') : FBox W' B q := (hb.block B (Array.getElem?_eq_some_iff.1 h).1).trans h
theorem FBox.lt {W : World} {B : Nat} {q : Rat} (h : FBox W B q) : B < W.heap.size := (Array.getElem?_eq_some_iff.1 h).1

/-- the four cells that are read beside calls -/
def E4 (w : World) (i : Inst) (l : Lot) (wn : World) : Prop := wn.cell? ⟨w.heap.size, 6, none⟩ = some (.string i.fn) ∧ wn.cell? ⟨w.heap.size, 7, none⟩ = some (.string i.fd) ∧ wn.cell? ⟨w.heap.size + 1, 4, none⟩ = some (.string l.qty) ∧ wn.cell? ⟨w.heap.size + 1, 5, none⟩ = some (.string l.cost)
theorem EG.four {w : World} {i : Inst} {l : Lot} {W : World} (h : EG w i l W) : E4 w i l W :=
  ⟨Lib.cell_of_heap h.ib 6, Lib.cell_of_heap h.ib 7, Lib.cell_of_heap h.lb 4, Lib.cell_of_heap h.lb 5⟩
theorem EG.lt {w : World} {i : Inst} {l : Lot} {W : World} (h : EG w i l W) : w.heap.size + 1 + 1 < W.heap.size := (Array.getElem?_eq_some_iff.1 h.rb).1
theorem EG.ne1 {w : World} {i : Inst} {l : Lot} {W : World} (h : EG w i l W) : W.heap.size ≠ w.heap.size := by have := h.lt; omega
theorem EG.ne2 {w : World} {i : Inst} {l : Lot} {W : World} (h : EG w i l W) : W.heap.size ≠ w.heap.size + 1 := by have := h.lt; omega
theorem EG.set2 {w : World} {i : Inst} {l : Lot} {W : World} (h : EG w i l W) {B : Nat} (hB : w.heap.size + 1 + 1 < B) (x y : Value) : EG w i l ((W.setCell ⟨B, 0, none⟩ x).setCell ⟨B, 1, none⟩ y) := by
  have k : ∀ b, b ≤ w.heap.size + 1 + 1 → ((W.setCell ⟨B, 0, none⟩ x).setCell ⟨B, 1, none⟩ y).heap[b]? = W.heap[b]? := fun b hb =>
    (Below.heap_setCell _ _ _ _ (by simp; omega)).trans (Below.heap_setCell _ _ _ _ (by simp; omega))
  exact ⟨(k _ (by omega)).trans h.ib, (k _ (by omega)).trans h.lb, (k _ (by omega)).trans h.rb, (h.be.setCell (p := ⟨B, 0, none⟩) (by simp; omega) _).setCell (p := ⟨B, 1, none⟩) (by simp; omega) _⟩
theorem EG.calls {w : World} {i : Inst} {l : Lot} {f : Nat} {args : Array Value} {v : Value} (ht : Tabs w) (h : ∀ W, Tabs W → Calls Tryz.prog f args W fun e w' => e = .returned v ∧ Below W.heap.size W w') :
    ∀ W, EG w i l W → Calls Tryz.prog f args W fun e wn => e = .returned v ∧ EG w i l wn ∧ Below W.heap.size W wn ∧ wn.cell? ⟨w.heap.size, 6, none⟩ = some (.string i.fn) ∧ wn.cell? ⟨w.heap.size, 7, none⟩ = some (.string i.fd) ∧ wn.cell? ⟨w.heap.size + 1, 4, none⟩ = some (.string l.qty) ∧ wn.cell? ⟨w.heap.size + 1, 5, none⟩ = some (.string l.cost) := by
  intro W hG
  refine (h W (ht.below hG.be)).mono ?_
  rintro e wn ⟨rfl, bn⟩
  exact ⟨rfl, hG.below bn, bn, (hG.below bn).four⟩
/-- the boxes, and a fraction -/
structure EF (w : World) (i : Inst) (l : Lot) (B : Nat) (q : Rat) (W : World) : Prop where
  eg : EG w i l W
  fb : FBox W B q
  lt : w.heap.size + 1 + 1 < B
theorem EF.below {w : World} {i : Inst} {l : Lot} {B : Nat} {q : Rat} {W W' : World} (h : EF w i l B q W) (hb : Below W.heap.size W W') : EF w i l B q W' := ⟨h.eg.below hb, h.fb.below hb, h.lt⟩
theorem EF.ne1 {w : World} {i : Inst} {l : Lot} {B : Nat} {q : Rat} {W : World} (h : EF w i l B q W) : W.heap.size ≠ w.heap.size := h.eg.ne1
theorem EF.ne2 {w : World} {i : Inst} {l : Lot} {B : Nat} {q : Rat} {W : World} (h : EF w i l B q W) : W.heap.size ≠ w.heap.size + 1 := h.eg.ne2
theorem EF.blt {w : World} {i : Inst} {l : Lot} {B : Nat} {q : Rat} {W : World} (h : EF w i l B q W) : B < W.heap.size := h.fb.lt
theorem EF.set2 {w : World} {i : Inst} {l : Lot} {B : Nat} {q : Rat} {W : World} (h : EF w i l B q W) {B' : Nat} (hB : B < B') (x y : Value) : EF w i l B q ((W.setCell ⟨B', 0, none⟩ x).setCell ⟨B', 1, none⟩ y) :=
  ⟨h.eg.set2 (by have := h.lt; omega) x y, ((Below.heap_setCell _ _ _ _ (by simp; omega)).trans (Below.heap_setCell _ _ _ _ (by simp; omega))).trans h.fb, h.lt⟩
theorem EF.calls {w : World} {i : Inst} {l : Lot} {B : Nat} {q : Rat} {f : Nat} {args : Array Value} {v : Value} (ht : Tabs w) (h : ∀ W, Tabs W → Calls Tryz.prog f args W fun e w' => e = .returned v ∧ Below W.heap.size W w') :
    ∀ W, EF w i l B q W → Calls Tryz.prog f args W fun e wn => e = .returned v ∧ EF w i l B q wn ∧ Below W.heap.size W wn ∧ wn.cell? ⟨w.heap.size, 5, none⟩ = some (.int .i64 i.matures) ∧ wn.cell? ⟨w.heap.size + 1, 3, none⟩ = some (.int .i64 l.opn) := by
  intro W hG
  refine (h W (ht.below hG.eg.be)).mono ?_
  rintro e wn ⟨rfl, bn⟩
  exact ⟨rfl, hG.below bn, bn, Lib.cell_of_heap (hG.below bn).eg.ib 5, Lib.cell_of_heap (hG.below bn).eg.lb 3⟩
set_option maxHeartbeats 8000000 in
set_option maxRecDepth 100000 in
theorem exact_some (i : Inst) (l : Lot) (d : Int) (hk : i.kind = 2) (ho : l.opn ≤ d) (s1 : i.fn.size ≤ 1000) (s2 : i.fd.size ≤ 1000) (s3 : l.qty.size ≤ 1000) (s4 : l.cost.size ≤ 1000)
    (e1 : okDay d) (e2 : okDay l.opn) (e3 : okDay i.matures) (w : World) (ht : Tabs w) :
    Calls Tryz.prog 51 #[i.enc, l.enc, .int .i64 d] w fun e w' => e = .returned (fenc (exactQ i l d)) ∧ Below w.heap.size w w' := by
  have HQ : Hid (exactQ i l d = if i.matures ≤ d then allQ i l else allQ i l * (((d - l.opn : Int) : Rat) / ((i.matures - l.opn : Int) : Rat))) := by unfold exactQ; rw [Hid, if_neg (by omega)]
  have HT := Lib.hid ht
  obtain ⟨K, hK⟩ : ∃ K, K = 1002 := ⟨_, rfl⟩
  have bf : BdQ (fv i.fn i.fd) K := fv_bd _ _ (by omega) (by omega)
  have bq : BdQ (vl l.qty : Rat) K := BdQ.int (Nat.lt_of_lt_of_le (vl_lt _) (pow_mono (by omega))) (by omega)
  have bc : BdQ (vl l.cost : Rat) K := BdQ.int (Nat.lt_of_lt_of_le (vl_lt _) (pow_mono (by omega))) (by omega)
  have bm := bf.mul bq
  have ba : BdQ (allQ i l) (K + K + K + 1) := bm.sub bc
  have HA : Hid (allQ i l = fv i.fn i.fd * (vl l.qty : Rat) - (vl l.cost : Rat)) := rfl
  have C1 := fun W hW => fOf_any l.qty W (by omega) hW
  have C2 := fun W hW => fMul_any i.fn i.fd (I (vl l.qty : Rat).num) (dn (vl l.qty : Rat)) W (by omega) (by omega) (by have := bq.num; omega) (by have := bq.dn; omega) hW
  have C3 := fun W hW => fOf_any l.cost W (by omega) hW
  have C4 := fun W hW => fSubQ bm bc (by omega) (by omega) W hW
  rw [fv_enc] at C2
  rw [← HA.out] at C4
  generalize (vl l.qty : Rat) = rq at C1 C2 C4 bm bq
  generalize (vl l.cost : Rat) = rc at C3 C4 bc
  generalize fv i.fn i.fd * rq = rm at C2 C4 bm
  generalize allQ i l = ra at C4 ba HQ
  have hG := EG.start w i l
  obtain ⟨W0, hW0⟩ : ∃ W0, ((w.alloc (.cells i.cells 27)).alloc (.cells l.cells 39)).alloc (.cells #[.string ⟨#[]⟩, .string ⟨#[]⟩] 25) = W0 := ⟨_, rfl⟩
  rw [hW0] at hG
  have HC1 := Lib.hid (EG.calls (i := i) (l := l) ht C1)
  have HC2 := Lib.hid (EG.calls (i := i) (l := l) ht C2)
  have HC3 := Lib.hid (EG.calls (i := i) (l := l) ht C3)
  have HC4 := Lib.hid (EG.calls (i := i) (l := l) ht C4)
  have HG := Lib.hid hG
  have c1 := Lib.cell_of_heap hG.ib 1
  have c5 := Lib.cell_of_heap hG.ib 5
  have c6 := Lib.cell_of_heap hG.ib 6
  have c7 := Lib.cell_of_heap hG.ib 7
  have o3 := Lib.cell_of_heap hG.lb 3
  have o4 := Lib.cell_of_heap hG.lb 4
  have o5 := Lib.cell_of_heap hG.lb 5
  simp at c1 c5 c6 c7 o3 o4 o5
  have t1 : (i.kind != 2) = false := by simp [hk]
  have t2 : decide (d < l.opn) = false := decide_eq_false (by omega)
  have HKK := Lib.hid hK
  have HBM := Lib.hid (And.intro bm ba)
  clear hG C1 C2 C3 C4 hk ht bf bq bc bm ba HA hK
  unfold Inst.enc Inst.cells Lot.enc Lot.cells at *
  unfold fenc at HC1 HC2 HC3 HC4
  go_enter Tryz.func51, Tryz.ntmps51
  go_wp2_with fail
  go_cut [7] (fun v7 wx => ∃ (B : Nat) (wr : World), v7 = .pointer (some ⟨B, 0, none⟩) ∧ w.heap.size + 1 + 1 < B ∧ FBox wr B ra ∧ EG w i l wr ∧ wr = wx)
  case first =>
    have hg : EG w i l W0.drew := HG.out.below (Below.refl _ _).drew
    have ne1 := HG.out.ne1
    have ne2 := HG.out.ne2
    have lt1 := HG.out.lt
    clear c1 c5 o3 HG
    go_region_held3 (fun W => W.cell? ⟨w.heap.size, 6, none⟩ = some (.string i.fn) ∧ W.cell? ⟨w.heap.size, 7, none⟩ = some (.string i.fd) ∧ W.cell? ⟨w.heap.size + 1, 4, none⟩ = some (.string l.qty) ∧ W.cell? ⟨w.heap.size + 1, 5, none⟩ = some (.string l.cost))
      (((try dsimp only); refine ⟨?_, ?_, ?_, ?_⟩ <;> first | assumption | (simp [*, World.cell?_alloc_some, World.cell?_setCell_far]; done) | (go_simp; done)))
      (first
        | (go_at_call_of 22 [Value.string l.qty]; refine (HC1.out _ ?_).mono ?_; (first | exact hg | exact hg.below ((Below.refl _ _).alloc (Nat.le_refl _) _)); clear hg c6 c7 o4 o5; rintro e wn ⟨rfl, hg, bn, c6, c7, o4, o5⟩; have ne1 := hg.ne1; have ne2 := hg.ne2; have lt1 := hg.lt; (first | (have nb := (bn.block _ (Array.getElem?_eq_some_iff.1 nb).1).trans nb; have n0 := Lib.cell_of_heap nb 0; have n1 := Lib.cell_of_heap nb 1; have n2 := Lib.frozen_of_heap nb 0; have n3 := Lib.frozen_of_heap nb 1; simp at n0 n1 n2 n3) | (have nb := (bn.block _ (by simp)).trans (heap_alloc_new _ _); have n0 := Lib.cell_of_heap nb 0; have n1 := Lib.cell_of_heap nb 1; have n2 := Lib.frozen_of_heap nb 0; have n3 := Lib.frozen_of_heap nb 1; simp at n0 n1 n2 n3) | skip); clear bn)
        | (go_at_call_of 22 [Value.string l.cost]; refine (HC3.out _ ?_).mono ?_; (first | exact hg | exact hg.below ((Below.refl _ _).alloc (Nat.le_refl _) _)); clear hg c6 c7 o4 o5; rintro e wn ⟨rfl, hg, bn, c6, c7, o4, o5⟩; have ne1 := hg.ne1; have ne2 := hg.ne2; have lt1 := hg.lt; (first | (have nb := (bn.block _ (Array.getElem?_eq_some_iff.1 nb).1).trans nb; have n0 := Lib.cell_of_heap nb 0; have n1 := Lib.cell_of_heap nb 1; have n2 := Lib.frozen_of_heap nb 0; have n3 := Lib.frozen_of_heap nb 1; simp at n0 n1 n2 n3) | (have nb := (bn.block _ (by simp)).trans (heap_alloc_new _ _); have n0 := Lib.cell_of_heap nb 0; have n1 := Lib.cell_of_heap nb 1; have n2 := Lib.frozen_of_heap nb 0; have n3 := Lib.frozen_of_heap nb 1; simp at n0 n1 n2 n3) | skip); clear bn)
        | (go_at_call_of 21 [Value.agg #[Value.string i.fn, Value.string i.fd], Value.agg #[Value.string (I rq.num), Value.string (dn rq)]]; refine (HC2.out _ ?_).mono ?_; (first | exact hg | exact hg.below ((Below.refl _ _).alloc (Nat.le_refl _) _)); clear hg c6 c7 o4 o5; rintro e wn ⟨rfl, hg, bn, c6, c7, o4, o5⟩; have ne1 := hg.ne1; have ne2 := hg.ne2; have lt1 := hg.lt; (first | (have nb := (bn.block _ (Array.getElem?_eq_some_iff.1 nb).1).trans nb; have n0 := Lib.cell_of_heap nb 0; have n1 := Lib.cell_of_heap nb 1; have n2 := Lib.frozen_of_heap nb 0; have n3 := Lib.frozen_of_heap nb 1; simp at n0 n1 n2 n3) | (have nb := (bn.block _ (by simp)).trans (heap_alloc_new _ _); have n0 := Lib.cell_of_heap nb 0; have n1 := Lib.cell_of_heap nb 1; have n2 := Lib.frozen_of_heap nb 0; have n3 := Lib.frozen_of_heap nb 1; simp at n0 n1 n2 n3) | skip); clear bn)
        | (go_at_call_of 20 [Value.agg #[Value.string (I rm.num), Value.string (dn rm)], Value.agg #[Value.string (I rc.num), Value.string (dn rc)]]; refine (HC4.out _ ?_).mono ?_; (first | exact hg | exact hg.below ((Below.refl _ _).alloc (Nat.le_refl _) _)); clear hg c6 c7 o4 o5; rintro e wn ⟨rfl, hg, bn, c6, c7, o4, o5⟩; have ne1 := hg.ne1; have ne2 := hg.ne2; have lt1 := hg.lt; (first | (have nb := (bn.block _ (Array.getElem?_eq_some_iff.1 nb).1).trans nb; have n0 := Lib.cell_of_heap nb 0; have n1 := Lib.cell_of_heap nb 1; have n2 := Lib.frozen_of_heap nb 0; have n3 := Lib.frozen_of_heap nb 1; simp at n0 n1 n2 n3) | (have nb := (bn.block _ (by simp)).trans (heap_alloc_new _ _); have n0 := Lib.cell_of_heap nb 0; have n1 := Lib.cell_of_heap nb 1; have n2 := Lib.frozen_of_heap nb 0; have n3 := Lib.frozen_of_heap nb 1; simp at n0 n1 n2 n3) | skip); clear bn))
    all_goals (first | go_wp2_with fail | skip)
    all_goals go_meet
    all_goals first
      | exact ⟨_, _, rfl, lt1, heap_alloc_new _ _, hg.below ((Below.refl _ _).alloc (Nat.le_refl _) _), rfl⟩
      | (refine ⟨_, _, rfl, ?_, set2 nb _ _, hg.set2 ?_ _ _, rfl⟩ <;> assumption)
  case rest =>
    obtain ⟨B, wr, rfl, hBB, hF, hG, rfl⟩ := hcut
    clear c1 c5 c6 c7 o3 o4 o5 HG hW0 HC1 HC2 HC3 HC4
    have c5 : wr.cell? ⟨w.heap.size, 5, none⟩ = some (.int .i64 i.matures) := Lib.cell_of_heap hG.ib 5
    have o3 : wr.cell? ⟨w.heap.size + 1, 3, none⟩ = some (.int .i64 l.opn) := Lib.cell_of_heap hG.lb 3
    have b0 := Lib.cell_of_heap hF 0
    have b1 := Lib.cell_of_heap hF 1
    have r0 := Lib.cell_of_heap hG.rb 0
    have r1 := Lib.cell_of_heap hG.rb 1
    have f0 := Lib.frozen_of_heap hG.rb 0
    have f1 := Lib.frozen_of_heap hG.rb 1
    simp at b0 b1 r0 r1 f0 f1
    have hg : EF w i l B ra wr := ⟨hG, hF, hBB⟩
    clear hG hF
    by_cases hm : i.matures ≤ d
    · have t3 : decide (i.matures ≤ d) = true := decide_eq_true hm
      have HQ2 : Hid (exactQ i l d = ra) := by rw [Hid, HQ.out, if_pos hm]
      clear hm HQ
      go_wp2_with fail
      have hd := hg.eg.done ra
      generalize (wr.setCell ⟨w.heap.size + 1 + 1, 0, none⟩ (.string (I ra.num))).setCell ⟨w.heap.size + 1 + 1, 1, none⟩ (.string (dn ra)) = W9 at hd ⊢
      have m0 := Lib.cell_of_heap hd.1 0
      have m1 := Lib.cell_of_heap hd.1 1
      simp at m0 m1
      refine bodyPost_ret (v := .agg #[.string (I ra.num), .string (dn ra)]) (by simp [results, Tryz.results51, go_sem, m0, m1]) rfl ⟨?_, hd.2⟩
      rw [HQ2.out]; rfl
    · have t3 : decide (i.matures ≤ d) = false := decide_eq_false hm
      unfold okDay at e1 e2 e3
      have HQ2 : Hid (exactQ i l d = ra * (((d - l.opn : Int) : Rat) / ((i.matures - l.opn : Int) : Rat))) := by rw [Hid, HQ.out, if_neg hm]
      obtain ⟨x, hx⟩ : ∃ x, x = d - l.opn := ⟨_, rfl⟩
      obtain ⟨y, hy⟩ : ∃ y, y = i.matures - l.opn := ⟨_, rfl⟩
      have wx : IntKind.i64.wrap (d - l.opn) = x := by rw [hx]; exact IntWalk.i64_in _ (by omega)
      have wy : IntKind.i64.wrap (i.matures - l.opn) = y := by rw [hy]; exact IntWalk.i64_in _ (by omega)
      have x0 : 0 ≤ x ∧ x < 1000000 := by omega
      have y0 : 0 < y ∧ y < 1000000 := by omega
      rw [← hx, ← hy] at HQ2
      have D1 := fun W hW => days_any x (by omega) (by omega) W hW
      have D2 := fun W hW => days_any y (by omega) (by omega) W hW
      have by' : BdQ (y : Rat) 7 := BdQ.int (by omega) (by omega)
      have bx' : BdQ (x : Rat) 7 := BdQ.int (by omega) (by omega)
      have D3 := fun W hW => fQuo_any (I (x : Rat).num) (dn (x : Rat)) (I (y : Rat).num) (dn (y : Rat)) W (by have := bx'.num; omega) (by have := bx'.dn; omega) (by have := by'.num; omega) (by have := by'.dn; omega) (by rw [vl_I]; show y ≠ 0; omega) hW
      rw [fv_enc, fv_enc] at D3
      have bp : BdQ ((x : Rat) / (y : Rat)) 7 := by rw [← Rat.divInt_eq_div]; exact BdQ.div (by omega) (by omega) (by omega)
      have D4 := fun W hW => fMulQ HBM.out.2 bp (by have := HKK.out; omega) (by omega) W hW
      generalize (x : Rat) = rx at *
      generalize (y : Rat) = ry at *
      generalize rx / ry = rp at *
      generalize ra * rp = rz at *
      unfold fenc at D1 D2 D3 D4
      have HD1 := Lib.hid (EF.calls (i := i) (l := l) (B := B) (q := ra) HT.out D1)
      have HD2 := Lib.hid (EF.calls (i := i) (l := l) (B := B) (q := ra) HT.out D2)
      have HD3 := Lib.hid (EF.calls (i := i) (l := l) (B := B) (q := ra) HT.out D3)
      have HD4 := Lib.hid (EF.calls (i := i) (l := l) (B := B) (q := ra) HT.out D4)
      clear hx hy D1 D2 D3 D4 bx' by' bp e1 e2 e3 hm HQ x0 y0 ho
      go_wp2_with fail
      go_cut [8] (fun v8 wx => ∃ (B2 : Nat) (wr : World), v8 = .pointer (some ⟨B2, 0, none⟩) ∧ FBox wr B2 rp ∧ EF w i l B ra wr ∧ wr = wx)
      case first =>
        have ne1 := hg.ne1
        have ne2 := hg.ne2
        have lt1 := hg.blt
        replace hg : EF w i l B ra wr.drew := hg.below (Below.refl _ _).drew
        clear b0 b1 r0 r1 f0 f1
        go_region_held3 (fun W => W.cell? ⟨w.heap.size, 5, none⟩ = some (.int .i64 i.matures) ∧ W.cell? ⟨w.heap.size + 1, 3, none⟩ = some (.int .i64 l.opn))
          (((try dsimp only); refine ⟨?_, ?_⟩ <;> first | assumption | (simp [*, World.cell?_alloc_some, World.cell?_setCell_far]; done) | (go_simp; done)))
          (first
            | (go_at_call_of 99 [Value.int IntKind.i64 x]; refine (HD1.out _ ?_).mono ?_; (first | exact hg | exact hg.below ((Below.refl _ _).alloc (Nat.le_refl _) _)); clear hg c5 o3; rintro e wn ⟨rfl, hg, bn, c5, o3⟩; have ne1 := hg.ne1; have ne2 := hg.ne2; have lt1 := hg.blt; (first | (have nb := (bn.block _ (Array.getElem?_eq_some_iff.1 nb).1).trans nb; have n0 := Lib.cell_of_heap nb 0; have n1 := Lib.cell_of_heap nb 1; have n2 := Lib.frozen_of_heap nb 0; have n3 := Lib.frozen_of_heap nb 1; simp at n0 n1 n2 n3) | (have nb := (bn.block _ (by simp)).trans (heap_alloc_new _ _); have n0 := Lib.cell_of_heap nb 0; have n1 := Lib.cell_of_heap nb 1; have n2 := Lib.frozen_of_heap nb 0; have n3 := Lib.frozen_of_heap nb 1; simp at n0 n1 n2 n3) | skip); clear bn)
            | (go_at_call_of 99 [Value.int IntKind.i64 y]; refine (HD2.out _ ?_).mono ?_; (first | exact hg | exact hg.below ((Below.refl _ _).alloc (Nat.le_refl _) _)); clear hg c5 o3; rintro e wn ⟨rfl, hg, bn, c5, o3⟩; have ne1 := hg.ne1; have ne2 := hg.ne2; have lt1 := hg.blt; (first | (have nb := (bn.block _ (Array.getElem?_eq_some_iff.1 nb).1).trans nb; have n0 := Lib.cell_of_heap nb 0; have n1 := Lib.cell_of_heap nb 1; have n2 := Lib.frozen_of_heap nb 0; have n3 := Lib.frozen_of_heap nb 1; simp at n0 n1 n2 n3) | (have nb := (bn.block _ (by simp)).trans (heap_alloc_new _ _); have n0 := Lib.cell_of_heap nb 0; have n1 := Lib.cell_of_heap nb 1; have n2 := Lib.frozen_of_heap nb 0; have n3 := Lib.frozen_of_heap nb 1; simp at n0 n1 n2 n3) | skip); clear bn)
            | (go_at_call_of 98 [Value.agg #[Value.string (I rx.num), Value.string (dn rx)], Value.agg #[Value.string (I ry.num), Value.string (dn ry)]]; refine (HD3.out _ ?_).mono ?_; (first | exact hg | exact hg.below ((Below.refl _ _).alloc (Nat.le_refl _) _)); clear hg c5 o3; rintro e wn ⟨rfl, hg, bn, c5, o3⟩; have ne1 := hg.ne1; have ne2 := hg.ne2; have lt1 := hg.blt; (first | (have nb := (bn.block _ (Array.getElem?_eq_some_iff.1 nb).1).trans nb; have n0 := Lib.cell_of_heap nb 0; have n1 := Lib.cell_of_heap nb 1; have n2 := Lib.frozen_of_heap nb 0; have n3 := Lib.frozen_of_heap nb 1; simp at n0 n1 n2 n3) | (have nb := (bn.block _ (by simp)).trans (heap_alloc_new _ _); have n0 := Lib.cell_of_heap nb 0; have n1 := Lib.cell_of_heap nb 1; have n2 := Lib.frozen_of_heap nb 0; have n3 := Lib.frozen_of_heap nb 1; simp at n0 n1 n2 n3) | skip); clear bn))
        all_goals (first | go_wp2_with fail | skip)
        all_goals go_meet
        all_goals first
          | exact ⟨_, _, rfl, heap_alloc_new _ _, hg.below ((Below.refl _ _).alloc (Nat.le_refl _) _), rfl⟩
          | (refine ⟨_, _, rfl, set2 nb _ _, hg.set2 ?_ _ _, rfl⟩; assumption)
      case rest =>
        obtain ⟨B2, wq, rfl, hF2, hG2, rfl⟩ := hcut
        clear b0 b1 r0 r1 f0 f1 c5 o3
        have b0 := Lib.cell_of_heap hG2.fb 0
        have b1 := Lib.cell_of_heap hG2.fb 1
        have p0 := Lib.cell_of_heap hF2 0
        have p1 := Lib.cell_of_heap hF2 1
        simp at b0 b1 p0 p1
        have HG2 := Lib.hid hG2
        clear hG2 hF2 hg
        go_wp2_with fail
        refine (HD4.out _ HG2.out).mono ?_
        rintro e w7 ⟨rfl, hg, _, _⟩
        have r0 := Lib.cell_of_heap hg.eg.rb 0
        have r1 := Lib.cell_of_heap hg.eg.rb 1
        have f0 := Lib.frozen_of_heap hg.eg.rb 0
        have f1 := Lib.frozen_of_heap hg.eg.rb 1
        simp at r0 r1 f0 f1
        have HG := Lib.hid hg
        clear hg
        go_wp2_with fail
        have hd := HG.out.eg.done rz
        generalize (w7.setCell ⟨w.heap.size + 1 + 1, 0, none⟩ (.string (I rz.num))).setCell ⟨w.heap.size + 1 + 1, 1, none⟩ (.string (dn rz)) = W9 at hd ⊢
        have m0 := Lib.cell_of_heap hd.1 0
        have m1 := Lib.cell_of_heap hd.1 1
        simp at m0 m1
        refine bodyPost_ret (v := .agg #[.string (I rz.num), .string (dn rz)]) (by simp [results, Tryz.results51, go_sem, m0, m1]) rfl ⟨?_, hd.2⟩
        rw [HQ2.out]; rfl
end Go.Proofs.YtpgjmdggblnfkaaGreatDoor
namespace Go.Proofs.YtpgjmdggblnfkaaGreatDoor
open Go.RowKit Tr Go.Shelf

/-- how many operations have not come up yet -/
def waits (L : List Bool) : Nat := (L.filter fun b => !b).length
theorem waits_set : ∀ (L : List Bool) (i : Nat), L[i]? = some false → waits (L.set i true) < waits L
  | [], i, h => by simp at h
  | b :: r, 0, h => by simp at h; subst h; simp [waits]
  | b :: r, i + 1, h => by
    simp at h
    have := waits_set r i h
    unfold waits at *
    cases b <;> simp at * <;> omega
theorem waits_zero : ∀ (L : List Bool) (i : Nat), waits L = 0 → L[i]? ≠ some false
  | [], i, _ => by simp
  | b :: r, 0, h => by cases b <;> simp [waits] at h ⊢
  | b :: r, i + 1, h => by
    simp
    refine waits_zero r i ?_
    unfold waits at *
    cases b <;> simp at h ⊢ <;> exact h
theorem getD_false {L : Array Bool} {i : Nat} (h : L.getD i true = false) : L.toList[i]? = some false := by
  rw [Array.getD_eq_getD_getElem?] at h
  rw [Array.getElem?_toList]
  cases hh : L[i]? with
  | none => rw [hh] at h; cases h
  | some b => rw [hh] at h; simp at h; rw [h]
variable {F : Fence} {n : Nat} {P : Program} {md : Region.Mode} {ops : Array Oper} {Q : Exit → Act → World → Prop}
theorem wpAnyIn_inv (J : Array Bool → Act → World → Prop)
    (hstep : ∀ L a w, J L a w → ∀ i ∈ Region.ready md ops L, wpOpIn F n P ops Q i (J (L.setIfInBounds i true)) a w)
    (hdone : ∀ L a w, J L a w → Region.ready md ops L = [] → Q .normal a w) :
    ∀ (fuel : Nat) (L : Array Bool) (a : Act) (w : World), J L a w → waits L.toList ≤ fuel → wpAnyIn F n P md ops Q fuel L a w := by
  intro fuel
  induction fuel with
  | zero =>
    intro L a w hj hw
    have hr : Region.ready md ops L = [] := by
      refine List.eq_nil_iff_forall_not_mem.2 fun i hi => ?_
      exact waits_zero L.toList i (by omega) (getD_false (mem_ready.1 hi).1)
    exact ⟨hr, hdone L a w hj hr⟩
  | succ fuel ih =>
    intro L a w hj hw
    refine ⟨fun hr => hdone L a w hj hr, fun i hi => wpOpIn_mono (fun a' w' h' => ih _ a' w' h' ?_) (hstep L a w hj i hi)⟩
    have := waits_set L.toList i (getD_false (mem_ready.1 hi).1)
    rw [Array.toList_setIfInBounds]
    omega
theorem getD_set_same {L : Array Bool} {i : Nat} (h : L.getD i true = false) : (L.setIfInBounds i true).getD i false = true := by
  have := getD_false h
  rw [Array.getElem?_toList] at this
  have hi := (Array.getElem?_eq_some_iff.1 this).1
  simp [Array.getD_eq_getD_getElem?, hi]
theorem getD_set_other {L : Array Bool} {i j : Nat} (h : i ≠ j) : (L.setIfInBounds i true).getD j false = L.getD j false := by
  simp [Array.getD_eq_getD_getElem?, Array.getElem?_setIfInBounds, h]
theorem getD_off {L : Array Bool} {i : Nat} (h : L.getD i true = false) : L.getD i false = false := by
  have := getD_false h
  rw [Array.getElem?_toList] at this
  simp [Array.getD_eq_getD_getElem?, this]
theorem getD_up {L : Array Bool} {i j : Nat} (hun : L.getD i true = false) (h : L.getD j false = true) : (L.setIfInBounds i true).getD j false = true := by
  by_cases e : i = j
  · subst e; exact getD_set_same hun
  · rw [getD_set_other e]; exact h
theorem getD_dn {L : Array Bool} {i j : Nat} (e : i ≠ j) (h : (L.setIfInBounds i true).getD j false = true) : L.getD j false = true := by rwa [getD_set_other e] at h
theorem getD_df {L : Array Bool} {i j : Nat} (e : i ≠ j) (h : (L.setIfInBounds i true).getD j false = false) : L.getD j false = false := by rwa [getD_set_other e] at h
theorem not_on {L : Array Bool} {i : Nat} (h : L.getD i false = false) (k : L.getD i false = true) : False := by rw [h] at k; cases k
theorem off_or_on (L : Array Bool) (i : Nat) : L.getD i false = false ∨ L.getD i false = true := by cases L.getD i false <;> simp
theorem ready_of {L : Array Bool} {i : Nat} {o : Oper} (hsz : i < L.size) (hoff : L.getD i false = false) (ho : ops[i]? = some o) (ha : ∀ e ∈ o.after, Region.binds md e = true → L.getD e.on false = true) : i ∈ Region.ready md ops L :=
  mem_ready.2 ⟨by rw [Array.getD_eq_getD_getElem?] at *; rw [Array.getElem?_eq_getElem hsz] at *; simpa using hoff, o, ho, ha⟩
end Go.Proofs.YtpgjmdggblnfkaaGreatDoor
