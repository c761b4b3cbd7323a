/-
  allocate.Share of a part of what is not negative.
  The walks of trancheref19.day, GreatOne, Check, Find (their yes: a valid lot, a small one, no such id).
  The walks of lot.isId, lot.Check on whatever is small: which answer. (Printed by gen_lot8.py.)
-/
import Derived.Test.YtdnmpgoigagjmaaGreatDoorA28
import Derived.Test.YtdnmpgoigagjmaaGreatDoorA21
import Derived.Test.YtdnmpgoigagjmaaGreatDoorA27
set_option linter.unusedVariables false
set_option linter.unusedSimpArgs false
namespace Go.Proofs.YtdnmpgoigagjmaaGreatDoor
open Go.RowKit Tr Go.Shelf
theorem anegative_no (a : ByteArray) (w : World) (s : a.size ≤ 4000000) (h : ¬ vl a < 0) :
 Calls Tryz.prog 167 #[.string a] w fun e w' => e = .returned (.bool false) ∧ Below w.heap.size w w' := by
 have HC := Lib.hid (Compare_any a ⟨#[]⟩ w s (by show 0 ≤ _; omega))
 rw [show vl (⟨#[]⟩ : ByteArray) = 0 from by rw [zero_eq, vl_I]] at HC
 have hc : decide (cmpI (vl a) 0 < 0) = false := decide_eq_false (by rw [cmpI_lt]; exact h)
 go_enter Tryz.func167, Tryz.ntmps167
 go_wp2_with fail
 refine HC.out.mono ?_
 rintro e w1 ⟨rfl, B1⟩
 clear HC
 go_wp2_with fail
 go_ret
 exact ⟨rfl, B1⟩
set_option maxHeartbeats 4000000 in
theorem aShare_ok (t p a : Int) (w : World) (st : (I t).size ≤ 1000) (sp : (I p).size ≤ 1000) (sa : (I a).size ≤ 1000) (t0 : 0 ≤ t) (p0 : 0 ≤ p) (a0 : 0 < a) (pa : p ≤ a) (ht : Tabs w) :
 Calls Tryz.prog 126 #[.string (I t), .string (I p), .string (I a)] w fun e w' => e = .returned (.tuple #[.string (I (shareZ t p a)), .string (I (t - shareZ t p a)), .int .i64 0]) ∧ Below w.heap.size w w' := by
 have HT := Lib.hid ht
 have zm : (I (t * p)).size ≤ 2001 := by have := mul_size (a := I t) (b := I p) st sp; rwa [vl_I, vl_I] at this
 obtain ⟨K, hK⟩ : ∃ K, K = 2001 := ⟨_, rfl⟩
 have zk : (I a).size ≤ K := by omega
 have zk2 : (I t).size ≤ K := by omega
 rw [← hK] at zm
 have bq : BdQ (Rat.divInt (t * p) a) K := BdQ.div (by have := vl_lt (I (t * p)); rw [vl_I] at this; exact Nat.lt_of_lt_of_le this (pow_mono zm)) (by have := vl_lt (I a); rw [vl_I] at this; exact Nat.lt_of_lt_of_le this (pow_mono zk)) (by omega)
 have zn := bq.num
 have zd := bq.dn
 have zr : (I (shareZ t p a)).size ≤ K + 1 := I_size_le (by
  obtain ⟨h1, h2⟩ := share_bounds t0 p0 a0 pa
  have h3 := vl_lt (I t)
  rw [vl_I] at h3
  have h4 : t.natAbs < 10 ^ K := Nat.lt_of_lt_of_le h3 (pow_mono zk2)
  omega)
 have HS := Lib.hid (show rnd (fv (I (Rat.divInt (t * p) a).num) (dn (Rat.divInt (t * p) a))) = shareZ t p a from by rw [fv_enc]; rfl)
 have HC1 := Lib.hid (fun W => Check_yes (I t) W (by omega) (by unfold Can; rw [vl_I]))
 have HC2 := Lib.hid (fun W => Check_yes (I p) W (by omega) (by unfold Can; rw [vl_I]))
 have HC3 := Lib.hid (fun W => Check_yes (I a) W (by omega) (by unfold Can; rw [vl_I]))
 have hz := toList_nil a
 rw [decide_eq_false (by omega)] at hz
 have HN1 := Lib.hid (fun W => anegative_no (I a) W (by omega) (by rw [vl_I]; omega))
 have HN2 := Lib.hid (fun W => anegative_no (I p) W (by omega) (by rw [vl_I]; omega))
 have hc1 : decide (0 < cmpI p a) = false := decide_eq_false (by rw [cmpI_gt]; omega)
 have hc2 : decide (cmpI p a > 0) = false := hc1
 generalize shareZ t p a = r at HS zr ⊢
 clear ht t0 p0 pa bq
 go_enter Tryz.func126, Tryz.ntmps126
 go_wp2_with fail
 refine (HC1.out _).mono ?_
 rintro e w1 ⟨rfl, B1⟩
 go_wp2_with fail
 refine (HC2.out _).mono ?_
 rintro e w2 ⟨rfl, B2⟩
 have B2 := B1.trans (B2.mono B1.size)
 clear B1
 go_wp2_with fail
 refine (HC3.out _).mono ?_
 rintro e w3 ⟨rfl, B3⟩
 have B3 := B2.trans (B3.mono B2.size)
 clear B2 HC1 HC2 HC3
 go_wp2_with fail
 refine (HN1.out _).mono ?_
 rintro e w4 ⟨rfl, B4⟩
 have B4 := B3.trans (B4.mono B3.size)
 clear B3
 go_wp2_with fail
 refine (HN2.out _).mono ?_
 rintro e w5 ⟨rfl, B5⟩
 have B5 := B4.trans (B5.mono B4.size)
 clear B4 HN1 HN2
 go_wp2_with fail
 refine (Compare_any (I p) (I a) _ (by omega) (by omega)).mono ?_
 rintro e w6 ⟨rfl, B6⟩
 have B6 := Lib.hid (B5.trans (B6.mono B5.size))
 rw [vl_I, vl_I]
 clear B5
 go_wp2_with fail
 refine (Mul_any (I t) (I p) w6 (by omega) (by omega) (HT.out.below B6.out)).mono ?_
 rintro e w7 ⟨rfl, B7⟩
 have B7 := Lib.hid (B6.out.trans (B7.mono B6.out.size))
 rw [vl_I, vl_I]
 clear B6 hc1 hc2 hz
 go_wp2_with fail
 refine (fNew_any (I (t * p)) (I a) w7 (by omega) (by omega) (by rw [vl_I]; omega) (HT.out.below B7.out)).mono ?_
 rintro e w8 ⟨rfl, B8⟩
 have B8 := Lib.hid (B7.out.trans (B8.mono B7.out.size))
 rw [vl_I, vl_I]
 unfold fenc
 clear B7
 generalize Rat.divInt (t * p) a = q at *
 go_wp2_with fail
 refine (Round_any (I q.num) (dn q) _ (by omega) (by omega) (HT.out.below (B8.out.alloc (by simp [B8.out.size]) _))).mono ?_
 rintro e w9 ⟨rfl, B9⟩
 have B9 := Lib.hid ((B8.out.alloc B8.out.size (Obj.cells #[.string (I q.num), .string (dn q)] 55)).trans (B9.mono (B8.out.alloc B8.out.size (Obj.cells #[.string (I q.num), .string (dn q)] 55)).size))
 rw [HS.out]
 clear B8
 go_wp2_with fail
 refine (Sub_any (I t) (I r) w9 (by omega) (by omega) (HT.out.below B9.out)).mono ?_
 rintro e w10 ⟨rfl, B10⟩
 rw [vl_I, vl_I]
 go_wp2_with fail
 refine bodyPost_ret (v := .tuple #[.string (I r), .string (I (t - r)), .int .i64 0]) (by simp [results, Tryz.results126, go_sem]) rfl ?_
 exact ⟨rfl, B9.out.trans (B10.mono B9.out.size)⟩
end Go.Proofs.YtdnmpgoigagjmaaGreatDoor
namespace Go.Proofs.YtdnmpgoigagjmaaGreatDoor
open Go.RowKit Tr Go.Shelf
def Lot.tiny (l : Lot) : Prop := l.qty.size ≤ 13 ∧ l.cost.size ≤ 13 ∧ l.used.size ≤ 13 ∧ l.id.size ≤ 40 ∧ l.inst.size ≤ 40
theorem Lot.tiny.sized {l : Lot} (h : l.tiny) : l.sized := by
 obtain ⟨h1, h2, h3, h4, h5⟩ := h
 exact ⟨by omega, by omega, by omega, by omega, by omega⟩
def ZeroPost (w : World) (P : Prop) (e : Ending) (w' : World) : Prop := ∃ n : Int, e = .returned (.int .i64 n) ∧ (n = 0 → P) ∧ Below w.heap.size w w'
theorem rday19_any (d : Int) (w : World) :
 Calls Tryz.prog 117 #[.int .i64 d] w fun e w' => e = .returned (.bool (decide (okDay d))) ∧ w = w' := by
 go_enter Tryz.func117, Tryz.ntmps117
 go_wp2_with fail
 all_goals (go_ret; refine ⟨?_, rfl⟩; first | (rw [decide_eq_true (p := okDay d) (by unfold okDay; omega)]; rfl) | (rw [decide_eq_false (p := okDay d) (by unfold okDay; omega)]; rfl) | (simp [okDay, *]; done))
theorem lbox (l : Lot) (w : World) : ∃ W0, w.alloc (.cells l.cells 49) = W0 ∧ Below w.heap.size w W0 ∧ W0.heap[w.heap.size]? = some (.cells l.cells 49) :=
 ⟨_, rfl, (Below.refl _ w).alloc (Nat.le_refl _) _, heap_alloc_new w _⟩
set_option maxHeartbeats 4000000 in
set_option maxRecDepth 100000 in
theorem rGreatOne_any (l : Lot) (w : World) : Calls Tryz.prog 46 #[l.enc] w (GreatPost w l.tiny) := by
 obtain ⟨W0, hW0, hB0, hk⟩ := lbox l w
 have c0 := Lib.cell_of_heap hk 0
 have c1 := Lib.cell_of_heap hk 1
 have c2 := Lib.cell_of_heap hk 2
 have c3 := Lib.cell_of_heap hk 3
 have c4 := Lib.cell_of_heap hk 4
 have c5 := Lib.cell_of_heap hk 5
 have c6 := Lib.cell_of_heap hk 6
 simp at c0 c1 c2 c3 c4 c5 c6
 have HB := Lib.hid hB0
 clear hB0 hk
 go_enter Tryz.func46, Tryz.ntmps46
 go_wp2_with fail
 refine (rLong_any l.qty _).mono ?_
 rintro e w1 ⟨rfl, rfl⟩
 by_cases h1 : 13 < l.qty.size
 ·rw [decide_eq_true h1]
  go_wp2_with fail
  go_ret
  exact ⟨true, rfl, fun h => (by cases h), HB.out⟩
 rw [decide_eq_false h1]
 go_wp2_with fail
 refine (rLong_any l.cost _).mono ?_
 rintro e w1 ⟨rfl, rfl⟩
 by_cases h2 : 13 < l.cost.size
 ·rw [decide_eq_true h2]
  go_wp2_with fail
  go_ret
  exact ⟨true, rfl, fun h => (by cases h), HB.out⟩
 rw [decide_eq_false h2]
 go_wp2_with fail
 refine (rLong_any l.used _).mono ?_
 rintro e w1 ⟨rfl, rfl⟩
 by_cases h3 : 13 < l.used.size
 ·rw [decide_eq_true h3]
  go_wp2_with fail
  go_ret
  exact ⟨true, rfl, fun h => (by cases h), HB.out⟩
 rw [decide_eq_false h3]
 by_cases h4 : 40 < l.id.size
 ·have t4 : decide ((40 : Int) < (l.id.size : Int)) = true := decide_eq_true (by omega)
  go_wp2_with fail
  go_ret
  exact ⟨true, rfl, fun h => (by cases h), HB.out⟩
 have t4 : decide ((40 : Int) < (l.id.size : Int)) = false := decide_eq_false (by omega)
 by_cases h5 : 40 < l.inst.size
 ·have t5 : decide ((40 : Int) < (l.inst.size : Int)) = true := decide_eq_true (by omega)
  go_wp2_with fail
  go_ret
  exact ⟨true, rfl, fun h => (by cases h), HB.out⟩
 have t5 : decide ((40 : Int) < (l.inst.size : Int)) = false := decide_eq_false (by omega)
 go_wp2_with fail
 go_ret
 exact ⟨false, rfl, fun _ => ⟨by omega, by omega, by omega, by omega, by omega⟩, HB.out⟩
theorem cmpI_pos {z : Int} (h : 0 < z) : decide (cmpI z 0 ≤ 0) = false := decide_eq_false (by rw [cmpI_le]; omega)
theorem cmpI_npos {z : Int} (h : ¬ 0 < z) : decide (cmpI z 0 ≤ 0) = true := decide_eq_true (by rw [cmpI_le]; omega)
theorem cmpI_neg {z : Int} (h : z < 0) : decide (cmpI z 0 < 0) = true := decide_eq_true (by rw [cmpI_lt]; omega)
theorem cmpI_nneg {z : Int} (h : ¬ z < 0) : decide (cmpI z 0 < 0) = false := decide_eq_false (by rw [cmpI_lt]; omega)
theorem bytes_eq (a b : ByteArray) : (a.toList == b.toList) = decide (a = b) := by
 by_cases h : a = b
 ·subst h; simp
 ·rw [decide_eq_false h]; exact neq_toList h
set_option maxHeartbeats 8000000 in
set_option maxRecDepth 100000 in
theorem rCheck19_any (l : Lot) (hs : l.tiny) (w : World) : Calls Tryz.prog 52 #[l.enc] w (ZeroPost w l.ok) := by
 obtain ⟨W0, hW0, hB0, hk⟩ := lbox l w
 obtain ⟨z1, z2, z3, z4, z5⟩ := hs
 have N1 := Lib.hid (fun W => rId_any l.id (by omega) W)
 have N2 := Lib.hid (fun W => rName_any l.inst (by omega) W)
 have Y1 := Lib.hid (fun (h : Can l.qty) W => rCheck_yes l.qty (by omega) h W)
 have X1 := Lib.hid (fun (h : ¬ Can l.qty) W => rCheck_no l.qty (by omega) h W)
 have Y2 := Lib.hid (fun (h : Can l.cost) W => rCheck_yes l.cost (by omega) h W)
 have X2 := Lib.hid (fun (h : ¬ Can l.cost) W => rCheck_no l.cost (by omega) h W)
 have Y3 := Lib.hid (fun (h : Can l.used) W => rCheck_yes l.used (by omega) h W)
 have X3 := Lib.hid (fun (h : ¬ Can l.used) W => rCheck_no l.used (by omega) h W)
 have S1 := Lib.hid (fun W => rSign_any l.qty (by omega) W)
 have S2 := Lib.hid (fun W => rSign_any l.cost (by omega) W)
 clear z1 z2 z3 z4 z5
 have c0 := Lib.cell_of_heap hk 0
 have c1 := Lib.cell_of_heap hk 1
 have c2 := Lib.cell_of_heap hk 2
 have c3 := Lib.cell_of_heap hk 3
 have c4 := Lib.cell_of_heap hk 4
 have c5 := Lib.cell_of_heap hk 5
 have c6 := Lib.cell_of_heap hk 6
 simp at c0 c1 c2 c3 c4 c5 c6
 have HB := Lib.hid hB0
 clear hB0 hk
 go_enter Tryz.func52, Tryz.ntmps52
 go_wp2_with fail
 refine (N1.out _).mono ?_
 rintro e w1 ⟨g, rfl, rfl, hg⟩
 cases g
 case false =>
  go_wp2_with fail
  go_ret
  exact ⟨23, rfl, fun h => (by cases h), HB.out⟩
 have G1 := Lib.hid (hg rfl)
 clear hg N1
 go_wp2_with fail
 refine (N2.out _).mono ?_
 rintro e w1 ⟨rfl, rfl⟩
 cases hn : nameOk l.inst
 ·go_wp2_with fail
  go_ret
  exact ⟨23, rfl, fun h => (by cases h), HB.out⟩
 have G2 := Lib.hid hn
 clear hn N2
 go_wp2_with fail
 refine (rday19_any l.acq _).mono ?_
 rintro e w1 ⟨rfl, rfl⟩
 by_cases h3 : okDay l.acq
 case neg =>
  rw [decide_eq_false h3]
  clear h3
  go_wp2_with fail
  go_ret
  exact ⟨13, rfl, fun h => (by cases h), HB.out⟩
 rw [decide_eq_true h3]
 have G3 := Lib.hid h3
 clear h3
 go_wp2_with fail
 refine (rday19_any l.opn _).mono ?_
 rintro e w1 ⟨rfl, rfl⟩
 by_cases h4 : okDay l.opn
 case neg =>
  rw [decide_eq_false h4]
  clear h4
  go_wp2_with fail
  go_ret
  exact ⟨13, rfl, fun h => (by cases h), HB.out⟩
 rw [decide_eq_true h4]
 have G4 := Lib.hid h4
 clear h4
 by_cases h5 : l.opn < l.acq
 ·have t5 : decide (l.opn < l.acq) = true := decide_eq_true h5
  clear h5
  go_wp2_with fail
  go_ret
  exact ⟨8, rfl, fun h => (by cases h), HB.out⟩
 have t5 : decide (l.opn < l.acq) = false := decide_eq_false h5
 have G5 := Lib.hid (show l.acq ≤ l.opn by omega)
 clear h5
 go_wp2_with fail
 by_cases h6 : Can l.qty
 case neg =>
  refine (X1.out h6 _).mono ?_
  rintro e w1 ⟨rfl, rfl⟩
  clear h6
  go_wp2_with fail
  go_ret
  exact ⟨1, rfl, fun h => (by cases h), HB.out⟩
 refine (Y1.out h6 _).mono ?_
 rintro e w1 ⟨rfl, rfl⟩
 have G6 := Lib.hid h6
 clear h6 Y1 X1
 go_wp2_with fail
 by_cases h7 : Can l.cost
 case neg =>
  refine (X2.out h7 _).mono ?_
  rintro e w1 ⟨rfl, rfl⟩
  clear h7
  go_wp2_with fail
  go_ret
  exact ⟨1, rfl, fun h => (by cases h), HB.out⟩
 refine (Y2.out h7 _).mono ?_
 rintro e w1 ⟨rfl, rfl⟩
 have G7 := Lib.hid h7
 clear h7 Y2 X2
 go_wp2_with fail
 by_cases h8 : Can l.used
 case neg =>
  refine (X3.out h8 _).mono ?_
  rintro e w1 ⟨rfl, rfl⟩
  clear h8
  go_wp2_with fail
  go_ret
  exact ⟨1, rfl, fun h => (by cases h), HB.out⟩
 refine (Y3.out h8 _).mono ?_
 rintro e w1 ⟨rfl, rfl⟩
 have G8 := Lib.hid h8
 clear h8 Y3 X3
 go_wp2_with fail
 refine (S1.out _).mono ?_
 rintro e w1 ⟨rfl, rfl⟩
 by_cases h9 : 0 < vl l.qty
 case neg =>
  have t9 := cmpI_npos h9
  clear h9
  go_wp2_with fail
  go_ret
  exact ⟨2, rfl, fun h => (by cases h), HB.out⟩
 have t9 := cmpI_pos h9
 have G9 := Lib.hid h9
 clear h9
 go_wp2_with fail
 refine (S2.out _).mono ?_
 rintro e w1 ⟨rfl, rfl⟩
 by_cases h10 : vl l.cost < 0
 ·have t10 := cmpI_neg h10
  clear h10
  go_wp2_with fail
  go_ret
  exact ⟨2, rfl, fun h => (by cases h), HB.out⟩
 have t10 := cmpI_nneg h10
 have G10 := Lib.hid (show 0 ≤ vl l.cost by omega)
 clear h10
 have e1 := bytes_eq l.used ⟨#[]⟩
 rw [show (⟨#[]⟩ : ByteArray).toList = [] from by rw [Lib.toList_data]] at e1
 have e2 := bytes_eq l.used l.qty
 by_cases h11 : l.used = ⟨#[]⟩
 ·have G11 := Lib.hid h11
  rw [decide_eq_true h11] at e1
  clear h11 e2
  go_wp2_with fail
  go_ret
  exact ⟨0, rfl, fun _ => ⟨G1.out, G2.out, G3.out, G4.out, G5.out, G6.out, G7.out, G8.out, G9.out, G10.out, .inl G11.out⟩, HB.out⟩
 rw [decide_eq_false h11] at e1
 clear h11
 by_cases h12 : l.used = l.qty
 ·have G12 := Lib.hid h12
  rw [decide_eq_true h12] at e2
  clear h12
  go_wp2_with fail
  go_ret
  exact ⟨0, rfl, fun _ => ⟨G1.out, G2.out, G3.out, G4.out, G5.out, G6.out, G7.out, G8.out, G9.out, G10.out, .inr G12.out⟩, HB.out⟩
 rw [decide_eq_false h12] at e2
 clear h12
 go_wp2_with fail
 go_ret
 exact ⟨2, rfl, fun h => (by cases h), HB.out⟩
def findR : List Lot → ByteArray → Nat → Nat × Bool
 | [], _, _ => (0, false)
 | l :: r, id, k => if l.id = id then (k, true) else findR r id (k + 1)
theorem findR_skip : ∀ (a b : List Lot) (id : ByteArray) (k : Nat), (∀ x ∈ a, x.id ≠ id) → findR (a ++ b) id k = findR b id (k + a.length)
 | [], b, id, k, _ => rfl
 | l :: r, b, id, k, h => by
   rw [List.cons_append, findR, if_neg (h l (List.mem_cons_self ..)), findR_skip r b id (k + 1) (fun x hx => h x (List.mem_cons_of_mem _ hx)), List.length_cons]
   congr 1
   omega
theorem findR_none {a : List Lot} {id : ByteArray} (h : ∀ x ∈ a, x.id ≠ id) (k : Nat) : findR a id k = (0, false) := by
 have := findR_skip a [] id k h
 rw [List.append_nil] at this
 rw [this]; rfl
theorem findR_false : ∀ (a : List Lot) (id : ByteArray) (k : Nat), (findR a id k).2 = false → ∀ x ∈ a, x.id ≠ id
 | [], _, _, _, _, hx => by cases hx
 | l :: r, id, k, h, x, hx => by
   rw [findR] at h
   by_cases e : l.id = id
   ·rw [if_pos e] at h; cases h
   ·rw [if_neg e] at h
    rcases List.mem_cons.1 hx with rfl | hx
    ·exact e
    ·exact findR_false r id (k + 1) h x hx
theorem findR_hit {ls : List Lot} {m k : Nat} {l : Lot} {id : ByteArray} (hk : k < m) (hm : m ≤ ls.length) (hs : ls.take (k + 1) = ls.take k ++ [l]) (hn : ∀ x ∈ ls.take k, x.id ≠ id) (h : l.id = id) : findR (ls.take m) id 0 = (k, true) := by
 have e : ls.take m = ls.take k ++ (l :: (ls.take m).drop (k + 1)) := by
  have := List.take_append_drop (k + 1) (ls.take m)
  rw [List.take_take, show min (k + 1) m = k + 1 by omega, hs] at this
  rw [List.append_assoc] at this
  exact this.symm
 rw [e, findR_skip _ _ _ _ hn, findR, if_pos h, List.length_take]
 congr 1
 omega
set_option maxHeartbeats 4000000 in
set_option maxRecDepth 100000 in
theorem rFind_any (A : Option Addr) (ls : List Lot) (m c : Nat) (hm : m ≤ ls.length) (hl : ls.length ≤ 1000000) (id : ByteArray) (w : World) (hR : RdL w A ls) :
 Calls Tryz.prog 48 #[.slice A m c, .string id] w fun e w' => e = .returned (.tuple #[.int .i64 ((findR (ls.take m) id 0).1 : Int), .bool (findR (ls.take m) id 0).2]) ∧ w = w' := by
 have HR := Lib.hid hR
 clear hR
 go_enter Tryz.func48, Tryz.ntmps48
 go_wp2_with fail
 go_loop [6] (fun v => ∃ k : Nat, v = .int .i64 (k : Int) ∧ k ≤ m ∧ ∀ x ∈ ls.take k, x.id ≠ id) (fun v => m - (intOf v).toNat)
 case atStart => exact ⟨0, rfl, by omega, fun x hx => by simp at hx⟩
 case round =>
  obtain ⟨k, rfl, hk, hx⟩ := hrel
  have HX := Lib.hid hx
  clear hx
  rcases Nat.lt_or_ge k m with hlt | hge
  ·have hlt' : k < ls.length := by omega
   obtain ⟨l, hl'⟩ : ∃ l, ls[k]? = some l := ⟨_, List.getElem?_eq_getElem hlt'⟩
   obtain ⟨ad, rfl, had, hcell⟩ := HR.out (by intro e; rw [e] at hlt'; cases hlt')
   have hcx : decide ((k : Int) < (m : Int)) = true := by simp; omega
   obtain ⟨c0, c1, c2, c3, c4, c5, c6⟩ := hcell k l hl'
   have HSN : Hid (ls.take (k + 1) = ls.take k ++ [l]) := by
    rw [Hid, List.take_succ_eq_append_getElem hlt']
    congr 2
    rw [List.getElem?_eq_getElem hlt'] at hl'
    exact Option.some.inj hl'
   clear hcell hl'
   have e2 := bytes_eq l.id id
   by_cases h1 : l.id = id
   ·rw [decide_eq_true h1] at e2
    have H1 := Lib.hid h1
    clear h1
    go_wp2_with fail
    go_ret2
    refine ⟨?_, rfl⟩
    rw [findR_hit hlt hm HSN.out HX.out H1.out]
    rfl
   ·rw [decide_eq_false h1] at e2
    have H1 := Lib.hid h1
    clear h1
    go_wp2_with fail
    go_round
    case rel =>
     refine ⟨k + 1, by go_num, by omega, fun x hx => ?_⟩
     rw [HSN.out, List.mem_append] at hx
     rcases hx with hx | hx
     ·exact HX.out x hx
     ·rw [List.mem_singleton] at hx; subst hx; exact H1.out
    case measure => simp [intOf]; omega
  ·have hcx : decide ((k : Int) < (m : Int)) = false := by simp; omega
   have hkm : k = m := by omega
   subst hkm
   go_wp2_with fail
   go_ret2
   refine ⟨?_, rfl⟩
   rw [findR_none HX.out]
   rfl
end Go.Proofs.YtdnmpgoigagjmaaGreatDoor
namespace Go.Proofs.YtdnmpgoigagjmaaGreatDoor
open Go.RowKit Tr Go.Shelf
theorem itoa_nat {n : Nat} (h : 0 < n) : Lib.itoa (n : Int) = digits n := by
 unfold Lib.itoa
 rw [if_neg (by omega), Int.toNat_natCast]
 have := dec_pos h
 unfold dec at this
 exact this
theorem digits_head {n : Nat} (h : 0 < n) : (digits n).getD 0 0 ≠ 48 := by
 have h1 := (digits_dval (digits n) (all_digits n)).1
 rw [dval_digits] at h1
 have h2 := digits_ne_nil h
 match hd : digits n, h2 with
 | b :: r, _ =>
   rw [hd] at h1
   intro e
   have hb : b = 48 := by simpa using e
   subst hb
   have h3 : strip (48 :: r) = strip r := rfl
   rw [h3] at h1
   have h4 : (strip r).length ≤ r.length := by unfold strip; exact (List.dropWhile_sublist _).length_le
   have h5 := congrArg List.length h1
   simp at h5
   omega
theorem numB_itoa {v : Int} {t : List UInt8} (h1 : 1 ≤ v) (h2 : v ≤ 9999) (h : Lib.itoa v = t) : numB t = true := by
 obtain ⟨n, rfl⟩ : ∃ n : Nat, v = (n : Int) := ⟨v.toNat, by omega⟩
 have hn : 0 < n := by omega
 rw [itoa_nat hn] at h
 subst h
 refine numB_of ?_ ?_ (all_digits n) (digits_head hn)
 ·exact List.length_pos_iff.2 (digits_ne_nil hn)
 ·exact (digits_length_le_iff 4 n).2 (by omega)
theorem cut_len (s p : List UInt8) : (Lib.cut s p).1.length ≤ s.length ∧ (Lib.cut s p).2.1.length ≤ s.length := by
 unfold Lib.cut
 split
 ·exact ⟨by simp only [List.length_take]; omega, by simp only [List.length_drop]; omega⟩
 ·exact ⟨Nat.le_refl _, by simp⟩
set_option maxHeartbeats 4000000 in
theorem isId_no (s : ByteArray) (hs : s.size ≤ 1000) (h : idB s = false) (w : World) (ht : Tabs w) :
 Calls Tryz.prog 112 #[.string s] w fun e w' => e = .returned (.bool false) ∧ Below w.heap.size w w' := by
 obtain ⟨m, hm⟩ := ht.maxLen
 have HC := Lib.hid (Tryz.strings_Cut s ⟨#[47]⟩ m w (by omega) hm)
 have hlc : (Lib.cut s.data.toList [47]).1.length ≤ 1000 ∧ (Lib.cut s.data.toList [47]).2.1.length ≤ 1000 := by
  have hl : s.data.toList.length = s.size := (Lib.size_eq s).symm
  have := cut_len s.data.toList [47]
  omega
 unfold idB at h
 rw [Bool.and_eq_false_iff] at h
 rw [show (⟨#[47]⟩ : ByteArray).data.toList = [47] from rfl] at HC
 generalize Lib.cut s.data.toList [47] = c at HC h hlc
 obtain ⟨c1, c2, c3⟩ := c
 dsimp only at HC h hlc
 have hz : (bs c2).size = c2.length := bs_size _
 have hz1 : (bs c1).size = c1.length := bs_size _
 have hd2 : (bs c2).data.toList = c2 := by unfold bs; simp
 have H := Lib.hid h
 have HT := Lib.hid ht
 have HN := Lib.hid (fun W => Name_any (bs c1) (by omega) W)
 rw [show (ByteArray.mk c1.toArray) = bs c1 from rfl, show (ByteArray.mk c2.toArray) = bs c2 from rfl] at HC
 have HL := Lib.hid (show (bs c2).size ≤ 1000 by omega)
 have HD := Lib.hid hd2
 clear hm h ht hz hz1 hlc hd2
 go_enter Tryz.func112, Tryz.ntmps112
 go_wp2_with fail
 refine HC.out.mono ?_
 rintro e w1 ⟨rfl, k, hw1⟩
 have B1 : Below w.heap.size w w1 := by rw [hw1]; exact below_drewN (Below.refl _ _) k
 have HB1 := Lib.hid B1
 clear hw1 B1 HC
 go_wp2_with fail
 cases hat : Lib.atoiAll (bs c2).data.toList with
 | range =>
   obtain ⟨tp, p, hv⟩ := (HT.out.below HB1.out).rng
   have HA := Lib.hid (Tryz.strconv_Atoi_range_var (bs c2) (by have := HL.out; omega) hat tp p w1 hv)
   clear hv hat
   refine HA.out.mono ?_
   rintro e w2 ⟨N, rfl, _, _, b2⟩
   have HB2 := Lib.hid (HB1.out.trans (b2.mono HB1.out.size))
   clear b2 HA
   go_wp2_with fail
   go_ret
   exact ⟨rfl, HB2.out⟩
 | ok v =>
   have HA := Lib.hid (Tryz.strconv_Atoi_ok (bs c2) (by have := HL.out; omega) v hat w1)
   clear hat
   refine HA.out.mono ?_
   rintro e w2 ⟨rfl, hw2⟩
   have B2 : Below w.heap.size w w2 := by
    rcases hw2 with rfl | ⟨t, rfl⟩
    ·exact HB1.out
    ·exact HB1.out.trans ((Lib.bytesWorld_below _ _ _).mono HB1.out.size)
   have HB2 := Lib.hid B2
   clear hw2 B2 HA HB1
   by_cases h1 : 1 ≤ v
   case neg =>
    have t1 : decide (1 ≤ v) = false := decide_eq_false h1
    clear h1
    go_wp2_with fail
    go_ret
    exact ⟨rfl, HB2.out⟩
   by_cases h2 : v ≤ 9999
   case neg =>
    have t1 : decide (1 ≤ v) = true := decide_eq_true h1
    have t2 : decide (v ≤ 9999) = false := decide_eq_false h2
    clear h1 h2
    go_wp2_with fail
    go_ret
    exact ⟨rfl, HB2.out⟩
   have t1 : decide (1 ≤ v) = true := decide_eq_true h1
   have t2 : decide (v ≤ 9999) = true := decide_eq_true h2
   have HI := Lib.hid (fun W hW => Itoa_any v (by omega) (by omega) W hW)
   have HV := Lib.hid (And.intro h1 h2)
   clear h1 h2
   go_wp2_with fail
   refine (HI.out _ (HT.out.below HB2.out)).mono ?_
   rintro e w3 ⟨rfl, b3⟩
   have HB3 := Lib.hid (HB2.out.trans (b3.mono HB2.out.size))
   clear b3 HB2
   by_cases h3 : bs (Lib.itoa v) = bs c2
   case neg =>
    have t3 : ((bs (Lib.itoa v)).toList == (bs c2).toList) = false := neq_toList h3
    clear h3
    go_wp2_with fail
    go_ret
    exact ⟨rfl, HB3.out⟩
   have hnum : numB c2 = true := by
    refine numB_itoa HV.out.1 HV.out.2 ?_
    have := congrArg (fun b : ByteArray => b.data.toList) h3
    simpa [bs] using this
   have hnm : nameOk (bs c1) = false := by
    rcases H.out with h | h
    ·rw [hnum] at h; cases h
    ·exact h
   rw [hnm] at HN
   rw [h3]
   clear h3 hnum hnm H
   go_wp2_with fail
   refine (HN.out _).mono ?_
   rintro e w4 ⟨rfl, b4⟩
   have HB4 := Lib.hid (HB3.out.trans (b4.mono HB3.out.size))
   clear b4 HB3
   go_wp2_with fail
   go_ret
   exact ⟨rfl, HB4.out⟩
 | _ =>
   obtain ⟨tp, p, hv⟩ := (HT.out.below HB1.out).syn
   have HA := Lib.hid (Tryz.strconv_Atoi_syntax_var (bs c2) (by have := HL.out; omega) (fun v h => by rw [hat] at h; cases h) (fun h => by rw [hat] at h; cases h) tp p w1 hv)
   clear hv hat
   refine HA.out.mono ?_
   rintro e w2 ⟨N, rfl, _, _, b2⟩
   have HB2 := Lib.hid (HB1.out.trans (b2.mono HB1.out.size))
   clear b2 HA
   go_wp2_with fail
   go_ret
   exact ⟨rfl, HB2.out⟩
theorem isId_any (s : ByteArray) (hs : s.size ≤ 1000) (w : World) (ht : Tabs w) :
 Calls Tryz.prog 112 #[.string s] w fun e w' => e = .returned (.bool (idB s)) ∧ Below w.heap.size w w' := by
 cases h : idB s
 ·exact isId_no s hs h w ht
 ·exact isId_ok s hs h w ht
open Classical in
noncomputable def lchk (l : Lot) : Int :=
 if idB l.id = false ∨ nameOk l.inst = false then 23
 else if ¬ okDay l.acq ∨ ¬ okDay l.opn then 13
 else if l.opn < l.acq then 8
 else if ¬ Can l.qty ∨ ¬ Can l.cost ∨ ¬ Can l.used then 1
 else if ¬ 0 < vl l.qty ∨ vl l.cost < 0 ∨ (l.used ≠ ⟨#[]⟩ ∧ l.used ≠ l.qty) then 2 else 0
theorem lchk_zero {l : Lot} : lchk l = 0 ↔ l.ok := by
 unfold lchk
 constructor
 ·intro h
  split at h
  ·cases h
  rename_i a1
  split at h
  ·cases h
  rename_i a2
  split at h
  ·cases h
  rename_i a3
  split at h
  ·cases h
  rename_i a4
  split at h
  ·cases h
  rename_i a5
  simp only [not_or, Bool.not_eq_false, Classical.not_not, not_and] at a1 a2 a4 a5
  refine ⟨a1.1, a1.2, a2.1, a2.2, by omega, a4.1, a4.2.1, a4.2.2, a5.1, by omega, ?_⟩
  rcases Classical.em (l.used = ⟨#[]⟩) with h | h
  ·exact .inl h
  ·exact .inr (a5.2.2 h)
 ·intro h
  have b1 : ¬ (idB l.id = false ∨ nameOk l.inst = false) := by rw [h.id, h.inst]; simp
  have b2 : ¬ (¬ okDay l.acq ∨ ¬ okDay l.opn) := by intro x; rcases x with x | x; exact x h.acq; exact x h.opn
  have b3 : ¬ l.opn < l.acq := by have := h.ord; omega
  have b4 : ¬ (¬ Can l.qty ∨ ¬ Can l.cost ∨ ¬ Can l.used) := by intro x; rcases x with x | x | x; exact x h.cq; exact x h.cc; exact x h.cu
  have b5 : ¬ (¬ 0 < vl l.qty ∨ vl l.cost < 0 ∨ (l.used ≠ ⟨#[]⟩ ∧ l.used ≠ l.qty)) := by
   intro x
   rcases x with x | x | x
   ·exact x h.pq
   ·have := h.pc; omega
   ·rcases h.us with u | u
    ·exact x.1 u
    ·exact x.2 u
  rw [if_neg b1, if_neg b2, if_neg b3, if_neg b4, if_neg b5]
theorem lchk_23 {l : Lot} (h : idB l.id = false ∨ nameOk l.inst = false) : lchk l = 23 := by unfold lchk; rw [if_pos h]
theorem lchk_13 {l : Lot} (a : idB l.id = true) (b : nameOk l.inst = true) (h : ¬ okDay l.acq ∨ ¬ okDay l.opn) : lchk l = 13 := by unfold lchk; rw [if_neg (by rw [a, b]; simp), if_pos h]
theorem lchk_8 {l : Lot} (a : idB l.id = true) (b : nameOk l.inst = true) (c : okDay l.acq) (d : okDay l.opn) (h : l.opn < l.acq) : lchk l = 8 := by
 unfold lchk; rw [if_neg (by rw [a, b]; simp), if_neg (by intro x; rcases x with x | x; exact x c; exact x d), if_pos h]
theorem lchk_1 {l : Lot} (a : idB l.id = true) (b : nameOk l.inst = true) (c : okDay l.acq) (d : okDay l.opn) (e : l.acq ≤ l.opn) (h : ¬ Can l.qty ∨ ¬ Can l.cost ∨ ¬ Can l.used) : lchk l = 1 := by
 unfold lchk; rw [if_neg (by rw [a, b]; simp), if_neg (by intro x; rcases x with x | x; exact x c; exact x d), if_neg (by omega), if_pos h]
theorem lchk_2 {l : Lot} (a : idB l.id = true) (b : nameOk l.inst = true) (c : okDay l.acq) (d : okDay l.opn) (e : l.acq ≤ l.opn) (f : Can l.qty) (g : Can l.cost) (i : Can l.used) (h : ¬ 0 < vl l.qty ∨ vl l.cost < 0 ∨ (l.used ≠ ⟨#[]⟩ ∧ l.used ≠ l.qty)) : lchk l = 2 := by
 unfold lchk; rw [if_neg (by rw [a, b]; simp), if_neg (by intro x; rcases x with x | x; exact x c; exact x d), if_neg (by omega), if_neg (by intro x; rcases x with x | x | x; exact x f; exact x g; exact x i), if_pos h]
set_option maxHeartbeats 16000000 in
set_option maxRecDepth 100000 in
theorem lCheck_any (l : Lot) (hs : l.sized) (w : World) (ht : Tabs w) :
 Calls Tryz.prog 51 #[l.enc] w fun e w' => e = .returned (.int .i64 (lchk l)) ∧ Below w.heap.size w w' := by
 obtain ⟨W0, hW0⟩ : ∃ W0, w.alloc (.cells l.cells 49) = W0 := ⟨_, rfl⟩
 have hk : LotBox W0 w.heap.size l := by rw [← hW0]; exact heap_alloc_new w _
 have HB : Hid (Below w.heap.size w W0) := by rw [← hW0]; exact (Below.refl _ w).alloc (Nat.le_refl _) _
 have c0 := Lib.cell_of_heap hk 0
 have c1 := Lib.cell_of_heap hk 1
 have c2 := Lib.cell_of_heap hk 2
 have c3 := Lib.cell_of_heap hk 3
 have c4 := Lib.cell_of_heap hk 4
 have c5 := Lib.cell_of_heap hk 5
 have c6 := Lib.cell_of_heap hk 6
 simp at c0 c1 c2 c3 c4 c5 c6
 have HK0 := Lib.hid hk
 have HT := Lib.hid ht
 obtain ⟨z1, z2, z3, z4, z5⟩ := hs
 have S1 := Lib.hid (fun W (hW : Tabs W) => isId_any l.id (by omega) W hW)
 have S2 := Lib.hid (fun W => Name_any l.inst (by omega) W)
 have Y1 := Lib.hid (fun (h : Can l.qty) W => Check_yes l.qty W (by omega) h)
 have X1 := Lib.hid (fun (h : ¬ Can l.qty) W => Check_no l.qty W (by omega) h)
 have Y2 := Lib.hid (fun (h : Can l.cost) W => Check_yes l.cost W (by omega) h)
 have X2 := Lib.hid (fun (h : ¬ Can l.cost) W => Check_no l.cost W (by omega) h)
 have Y3 := Lib.hid (fun (h : Can l.used) W => Check_yes l.used W (by omega) h)
 have X3 := Lib.hid (fun (h : ¬ Can l.used) W => Check_no l.used W (by omega) h)
 have M1 := Lib.hid (fun W => Compare_any l.qty ⟨#[]⟩ W (by omega) (by show 0 ≤ _; omega))
 have M2 := Lib.hid (fun W => Compare_any l.cost ⟨#[]⟩ W (by omega) (by show 0 ≤ _; omega))
 rw [show vl (⟨#[]⟩ : ByteArray) = 0 from by rw [zero_eq, vl_I]] at M1 M2
 clear ht hk z1 z2 z3 z4 z5
 unfold Lot.enc Lot.cells at *
 go_enter Tryz.func51, Tryz.ntmps51
 go_wp2_with fail
 refine (S1.out W0 (HT.out.below HB.out)).mono ?_
 rintro e w1 ⟨rfl, b1⟩
 have hk1 := HK0.out.below b1
 replace HB := Lib.hid (HB.out.trans (b1.mono HB.out.size))
 clear c0 c1 c2 c3 c4 c5 c6
 have c0 := Lib.cell_of_heap hk1 0
 have c1 := Lib.cell_of_heap hk1 1
 have c2 := Lib.cell_of_heap hk1 2
 have c3 := Lib.cell_of_heap hk1 3
 have c4 := Lib.cell_of_heap hk1 4
 have c5 := Lib.cell_of_heap hk1 5
 have c6 := Lib.cell_of_heap hk1 6
 simp at c0 c1 c2 c3 c4 c5 c6
 have HK1 := Lib.hid hk1
 clear b1 S1 hk1 HK0 hW0
 cases hid : idB l.id
 ·have H := Lib.hid hid
  clear hid
  go_wp2_with fail
  go_ret
  exact ⟨by rw [lchk_23 (.inl H.out)]; rfl, HB.out⟩
 have G1 := Lib.hid hid
 clear hid
 go_wp2_with fail
 refine (S2.out w1).mono ?_
 rintro e w2 ⟨rfl, b2⟩
 have hk2 := HK1.out.below b2
 replace HB := Lib.hid (HB.out.trans (b2.mono HB.out.size))
 clear c0 c1 c2 c3 c4 c5 c6
 have c0 := Lib.cell_of_heap hk2 0
 have c1 := Lib.cell_of_heap hk2 1
 have c2 := Lib.cell_of_heap hk2 2
 have c3 := Lib.cell_of_heap hk2 3
 have c4 := Lib.cell_of_heap hk2 4
 have c5 := Lib.cell_of_heap hk2 5
 have c6 := Lib.cell_of_heap hk2 6
 simp at c0 c1 c2 c3 c4 c5 c6
 have HK2 := Lib.hid hk2
 clear b2 S2 hk2 HK1
 cases hnm : nameOk l.inst
 ·have H := Lib.hid hnm
  clear hnm
  go_wp2_with fail
  go_ret
  exact ⟨by rw [lchk_23 (.inr H.out)]; rfl, HB.out⟩
 have G2 := Lib.hid hnm
 clear hnm
 go_wp2_with fail
 refine (lvalid_any l.acq w2).mono ?_
 rintro e w3 ⟨rfl, rfl⟩
 by_cases h3 : okDay l.acq
 case neg =>
  rw [decide_eq_false h3]
  have H := Lib.hid h3
  clear h3
  go_wp2_with fail
  go_ret
  exact ⟨by rw [lchk_13 G1.out G2.out (.inl H.out)]; rfl, HB.out⟩
 rw [decide_eq_true h3]
 have G3 := Lib.hid h3
 clear h3
 go_wp2_with fail
 refine (lvalid_any l.opn _).mono ?_
 rintro e w4 ⟨rfl, rfl⟩
 by_cases h4 : okDay l.opn
 case neg =>
  rw [decide_eq_false h4]
  have H := Lib.hid h4
  clear h4
  go_wp2_with fail
  go_ret
  exact ⟨by rw [lchk_13 G1.out G2.out (.inr H.out)]; rfl, HB.out⟩
 rw [decide_eq_true h4]
 have G4 := Lib.hid h4
 clear h4
 by_cases h5 : l.opn < l.acq
 ·have t5 : decide (l.opn < l.acq) = true := decide_eq_true h5
  have H := Lib.hid h5
  clear h5
  go_wp2_with fail
  go_ret
  exact ⟨by rw [lchk_8 G1.out G2.out G3.out G4.out H.out]; rfl, HB.out⟩
 have t5 : decide (l.opn < l.acq) = false := decide_eq_false h5
 have G5 := Lib.hid (show l.acq ≤ l.opn by omega)
 clear h5
 obtain ⟨W5, hW5⟩ : ∃ W5, w4.alloc (.cells (u3Cells l) 25) = W5 := ⟨_, rfl⟩
 have b5 : Below w4.heap.size w4 W5 := by rw [← hW5]; exact (Below.refl _ w4).alloc (Nat.le_refl _) _
 have HS5 : Hid (LLoop w w4.heap.size l W5) := ⟨by rw [← hW5]; exact heap_alloc_new w4 _, HK2.out.below b5, HB.out.trans (b5.mono HB.out.size)⟩
 clear b5 HK2 HB
 unfold u3Cells at hW5
 go_wp2_with fail
 go_loopw [38] (fun v wx => ∃ k : Nat, v = .int .i64 (k : Int) ∧ k ≤ 3 ∧ (1 ≤ k → Can l.qty) ∧ (2 ≤ k → Can l.cost) ∧ (3 ≤ k → Can l.used) ∧ LLoop w w4.heap.size l wx) (fun v _ => 3 - (intOf v).toNat)
 case atStart => exact ⟨0, rfl, by omega, fun h => by omega, fun h => by omega, fun h => by omega, HS5.out⟩
 case round =>
  obtain ⟨k, rfl, hk, k1, k2, k3, hL⟩ := hrel
  clear HS5 hW5
  clear c0 c1 c2 c3 c4 c5 c6
  have K1 := Lib.hid k1
  have K2 := Lib.hid k2
  have K3 := Lib.hid k3
  clear k1 k2 k3
  have n0 := Lib.cell_of_heap hL.ns 0
  have n1 := Lib.cell_of_heap hL.ns 1
  have n2 := Lib.cell_of_heap hL.ns 2
  simp [u3Cells] at n0 n1 n2
  have c0 := Lib.cell_of_heap hL.ib 0
  have c1 := Lib.cell_of_heap hL.ib 1
  have c2 := Lib.cell_of_heap hL.ib 2
  have c3 := Lib.cell_of_heap hL.ib 3
  have c4 := Lib.cell_of_heap hL.ib 4
  have c5 := Lib.cell_of_heap hL.ib 5
  have c6 := Lib.cell_of_heap hL.ib 6
  simp at c0 c1 c2 c3 c4 c5 c6
  have HL := Lib.hid hL
  clear hL
  rcases (show k = 0 ∨ k = 1 ∨ k = 2 ∨ k = 3 from by omega) with rfl | rfl | rfl | rfl
  ·by_cases hc : Can l.qty
   ·have H := Lib.hid hc
    clear hc
    go_wp2_with fail
    refine (Y1.out H.out _).mono ?_
    rintro e w6 ⟨rfl, b6⟩
    have HL6 := Lib.hid (HL.out.below b6)
    clear b6
    go_wp2_with fail
    go_roundw
    case rel => exact ⟨1, rfl, by omega, (fun _ => H.out), (fun h => by omega), (fun h => by omega), HL6.out⟩
    case measure => simp [intOf]
   ·have H := Lib.hid hc
    clear hc
    go_wp2_with fail
    refine (X1.out H.out _).mono ?_
    rintro e w6 ⟨rfl, b6⟩
    have HB := Lib.hid (HL.out.below b6).be
    clear b6
    go_wp2_with fail
    go_ret
    exact ⟨by rw [lchk_1 G1.out G2.out G3.out G4.out G5.out (.inl H.out)]; rfl, HB.out⟩
  ·by_cases hc : Can l.cost
   ·have H := Lib.hid hc
    clear hc
    go_wp2_with fail
    refine (Y2.out H.out _).mono ?_
    rintro e w6 ⟨rfl, b6⟩
    have HL6 := Lib.hid (HL.out.below b6)
    clear b6
    go_wp2_with fail
    go_roundw
    case rel => exact ⟨2, rfl, by omega, (fun _ => K1.out (by omega)), (fun _ => H.out), (fun h => by omega), HL6.out⟩
    case measure => simp [intOf]
   ·have H := Lib.hid hc
    clear hc
    go_wp2_with fail
    refine (X2.out H.out _).mono ?_
    rintro e w6 ⟨rfl, b6⟩
    have HB := Lib.hid (HL.out.below b6).be
    clear b6
    go_wp2_with fail
    go_ret
    exact ⟨by rw [lchk_1 G1.out G2.out G3.out G4.out G5.out (.inr (.inl H.out))]; rfl, HB.out⟩
  ·by_cases hc : Can l.used
   ·have H := Lib.hid hc
    clear hc
    go_wp2_with fail
    refine (Y3.out H.out _).mono ?_
    rintro e w6 ⟨rfl, b6⟩
    have HL6 := Lib.hid (HL.out.below b6)
    clear b6
    go_wp2_with fail
    go_roundw
    case rel => exact ⟨3, rfl, by omega, (fun _ => K1.out (by omega)), (fun _ => K2.out (by omega)), (fun _ => H.out), HL6.out⟩
    case measure => simp [intOf]
   ·have H := Lib.hid hc
    clear hc
    go_wp2_with fail
    refine (X3.out H.out _).mono ?_
    rintro e w6 ⟨rfl, b6⟩
    have HB := Lib.hid (HL.out.below b6).be
    clear b6
    go_wp2_with fail
    go_ret
    exact ⟨by rw [lchk_1 G1.out G2.out G3.out G4.out G5.out (.inr (.inr H.out))]; rfl, HB.out⟩
  ·go_wp2_with fail
   refine (M1.out _).mono ?_
   rintro e w6 ⟨rfl, b6⟩
   have hL6 := HL.out.below b6
   clear c0 c1 c2 c3 c4 c5 c6
   clear n0 n1 n2
   have c0 := Lib.cell_of_heap hL6.ib 0
   have c1 := Lib.cell_of_heap hL6.ib 1
   have c2 := Lib.cell_of_heap hL6.ib 2
   have c3 := Lib.cell_of_heap hL6.ib 3
   have c4 := Lib.cell_of_heap hL6.ib 4
   have c5 := Lib.cell_of_heap hL6.ib 5
   have c6 := Lib.cell_of_heap hL6.ib 6
   simp at c0 c1 c2 c3 c4 c5 c6
   have HL6 := Lib.hid hL6
   clear b6 hL6 HL
   by_cases h9 : 0 < vl l.qty
   case neg =>
    have t9 := cmpI_npos h9
    have H := Lib.hid h9
    clear h9
    go_wp2_with fail
    go_ret
    exact ⟨by rw [lchk_2 G1.out G2.out G3.out G4.out G5.out (K1.out (by omega)) (K2.out (by omega)) (K3.out (by omega)) (.inl (Int.not_lt.2 H.out))]; rfl, HL6.out.be⟩
   have t9 := cmpI_pos h9
   have G9 := Lib.hid h9
   clear h9
   go_wp2_with fail
   refine (M2.out _).mono ?_
   rintro e w7 ⟨rfl, b7⟩
   have hL7 := HL6.out.below b7
   clear c0 c1 c2 c3 c4 c5 c6
   have c0 := Lib.cell_of_heap hL7.ib 0
   have c1 := Lib.cell_of_heap hL7.ib 1
   have c2 := Lib.cell_of_heap hL7.ib 2
   have c3 := Lib.cell_of_heap hL7.ib 3
   have c4 := Lib.cell_of_heap hL7.ib 4
   have c5 := Lib.cell_of_heap hL7.ib 5
   have c6 := Lib.cell_of_heap hL7.ib 6
   simp at c0 c1 c2 c3 c4 c5 c6
   have HL7 := Lib.hid hL7
   clear b7 hL7 HL6
   by_cases h10 : vl l.cost < 0
   ·have t10 := cmpI_neg h10
    have H := Lib.hid h10
    clear h10
    go_wp2_with fail
    go_ret
    exact ⟨by rw [lchk_2 G1.out G2.out G3.out G4.out G5.out (K1.out (by omega)) (K2.out (by omega)) (K3.out (by omega)) (.inr (.inl H.out))]; rfl, HL7.out.be⟩
   have t10 := cmpI_nneg h10
   have G10 := Lib.hid (show 0 ≤ vl l.cost by omega)
   clear h10
   have e1 := bytes_eq l.used ⟨#[]⟩
   rw [show (⟨#[]⟩ : ByteArray).toList = [] from by rw [Lib.toList_data]] at e1
   have e2 := bytes_eq l.used l.qty
   have OK := Lib.hid (fun (u : l.used = ⟨#[]⟩ ∨ l.used = l.qty) => lchk_zero.2 (⟨G1.out, G2.out, G3.out, G4.out, G5.out, K1.out (by omega), K2.out (by omega), K3.out (by omega), G9.out, G10.out, u⟩ : l.ok))
   by_cases h11 : l.used = ⟨#[]⟩
   ·have G11 := Lib.hid h11
    rw [decide_eq_true h11] at e1
    clear h11 e2
    go_wp2_with fail
    go_ret
    exact ⟨by rw [OK.out (.inl G11.out)]; rfl, HL7.out.be⟩
   rw [decide_eq_false h11] at e1
   have H11 := Lib.hid h11
   clear h11
   by_cases h12 : l.used = l.qty
   ·have G12 := Lib.hid h12
    rw [decide_eq_true h12] at e2
    clear h12
    go_wp2_with fail
    go_ret
    exact ⟨by rw [OK.out (.inr G12.out)]; rfl, HL7.out.be⟩
   rw [decide_eq_false h12] at e2
   have H12 := Lib.hid h12
   clear h12
   go_wp2_with fail
   go_ret
   exact ⟨by rw [lchk_2 G1.out G2.out G3.out G4.out G5.out (K1.out (by omega)) (K2.out (by omega)) (K3.out (by omega)) (.inr (.inr ⟨H11.out, H12.out⟩))]; rfl, HL7.out.be⟩
end Go.Proofs.YtdnmpgoigagjmaaGreatDoor
