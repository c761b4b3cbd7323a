/-
  The walks of trancheref19.day, GreatOne, Check, Find (their yes: a valid lot, a small one, no such id).
  The walks of instrument.plain and forward: 0 exactly where valid. (Printed by gen_ins9.py.)
-/
import Derived.Test.YtpgjmdggblnfkaaGreatDoorM26
import Derived.Test.YtpgjmdggblnfkaaGreatDoorM27
import Derived.Test.YtpgjmdggblnfkaaGreatDoorM22
set_option linter.unusedVariables false
set_option linter.unusedSimpArgs false
set_option maxHeartbeats 16000000
set_option maxRecDepth 100000
namespace Go.Proofs.YtpgjmdggblnfkaaGreatDoor
open Go.RowKit Tr Go.Shelf
def Lot.tiny (l : Lot) : Prop := l.qty.size ≤ 13 ∧ l.cost.size ≤ 13 ∧ l.used.size ≤ 13 ∧ l.id.size ≤ 40 ∧ l.inst.size ≤ 40
theorem Lot.tiny.sized {l : Lot} (h : l.tiny) : l.sized := by
 obtain ⟨h1, h2, h3, h4, h5⟩ := h
 exact ⟨by omega, by omega, by omega, by omega, by omega⟩
def ZeroPost (w : World) (P : Prop) (e : Ending) (w' : World) : Prop := ∃ n : Int, e = .returned (.int .i64 n) ∧ (n = 0 → P) ∧ Below w.heap.size w w'
theorem rday19_any (d : Int) (w : World) :
 Calls Tryz.prog 138 #[.int .i64 d] w fun e w' => e = .returned (.bool (decide (okDay d))) ∧ w = w' := by
 go_enter Tryz.func138, Tryz.ntmps138
 go_wp2_with fail
 all_goals (go_ret; refine ⟨?_, rfl⟩; first | (rw [decide_eq_true (p := okDay d) (by unfold okDay; omega)]; rfl) | (rw [decide_eq_false (p := okDay d) (by unfold okDay; omega)]; rfl) | (simp [okDay, *]; done))
theorem lbox (l : Lot) (w : World) : ∃ W0, w.alloc (.cells l.cells 39) = W0 ∧ Below w.heap.size w W0 ∧ W0.heap[w.heap.size]? = some (.cells l.cells 39) :=
 ⟨_, rfl, (Below.refl _ w).alloc (Nat.le_refl _) _, heap_alloc_new w _⟩
theorem rGreatOne_any (l : Lot) (w : World) : Calls Tryz.prog 122 #[l.enc] w (GreatPost w l.tiny) := by
 obtain ⟨W0, hW0, hB0, hk⟩ := lbox l w
 obtain ⟨c0, c1, c2, c3, c4, c5, c6⟩ := cells7 hk
 have HB := Lib.hid hB0
 clear hB0 hk
 go_enter Tryz.func122, Tryz.ntmps122
 go_wp2_with fail
 refine (rLong_any l.qty _).mono ?_
 rintro e w1 ⟨rfl, rfl⟩
 by_cases h1 : 13 < l.qty.size
 ·rw [decide_eq_true h1]
  go_wp2_with fail
  go_ret
  exact ⟨true, rfl, fun h => (by cases h), HB.out⟩
 rw [decide_eq_false h1]
 go_wp2_with fail
 refine (rLong_any l.cost _).mono ?_
 rintro e w1 ⟨rfl, rfl⟩
 by_cases h2 : 13 < l.cost.size
 ·rw [decide_eq_true h2]
  go_wp2_with fail
  go_ret
  exact ⟨true, rfl, fun h => (by cases h), HB.out⟩
 rw [decide_eq_false h2]
 go_wp2_with fail
 refine (rLong_any l.used _).mono ?_
 rintro e w1 ⟨rfl, rfl⟩
 by_cases h3 : 13 < l.used.size
 ·rw [decide_eq_true h3]
  go_wp2_with fail
  go_ret
  exact ⟨true, rfl, fun h => (by cases h), HB.out⟩
 rw [decide_eq_false h3]
 by_cases h4 : 40 < l.id.size
 ·have t4 : decide ((40 : Int) < (l.id.size : Int)) = true := decide_eq_true (by omega)
  go_wp2_with fail
  go_ret
  exact ⟨true, rfl, fun h => (by cases h), HB.out⟩
 have t4 : decide ((40 : Int) < (l.id.size : Int)) = false := decide_eq_false (by omega)
 by_cases h5 : 40 < l.inst.size
 ·have t5 : decide ((40 : Int) < (l.inst.size : Int)) = true := decide_eq_true (by omega)
  go_wp2_with fail
  go_ret
  exact ⟨true, rfl, fun h => (by cases h), HB.out⟩
 have t5 : decide ((40 : Int) < (l.inst.size : Int)) = false := decide_eq_false (by omega)
 go_wp2_with fail
 go_ret
 exact ⟨false, rfl, fun _ => ⟨by omega, by omega, by omega, by omega, by omega⟩, HB.out⟩
theorem cmpI_pos {z : Int} (h : 0 < z) : decide (cmpI z 0 ≤ 0) = false := decide_eq_false (by rw [cmpI_le]; omega)
theorem cmpI_npos {z : Int} (h : ¬ 0 < z) : decide (cmpI z 0 ≤ 0) = true := decide_eq_true (by rw [cmpI_le]; omega)
theorem cmpI_neg {z : Int} (h : z < 0) : decide (cmpI z 0 < 0) = true := decide_eq_true (by rw [cmpI_lt]; omega)
theorem cmpI_nneg {z : Int} (h : ¬ z < 0) : decide (cmpI z 0 < 0) = false := decide_eq_false (by rw [cmpI_lt]; omega)
theorem bytes_eq (a b : ByteArray) : (a.toList == b.toList) = decide (a = b) := by
 by_cases h : a = b
 ·subst h; simp
 ·rw [decide_eq_false h]; exact neq_toList h
theorem rCheck19_any (l : Lot) (hs : l.tiny) (w : World) : Calls Tryz.prog 80 #[l.enc] w (ZeroPost w l.ok) := by
 obtain ⟨W0, hW0, hB0, hk⟩ := lbox l w
 obtain ⟨z1, z2, z3, z4, z5⟩ := hs
 have N1 := Lib.hid (fun W => rId_any l.id (by omega) W)
 have N2 := Lib.hid (fun W => rName_any l.inst (by omega) W)
 have Y1 := Lib.hid (fun (h : Can l.qty) W => rCheck_yes l.qty (by omega) h W)
 have X1 := Lib.hid (fun (h : ¬ Can l.qty) W => rCheck_no l.qty (by omega) h W)
 have Y2 := Lib.hid (fun (h : Can l.cost) W => rCheck_yes l.cost (by omega) h W)
 have X2 := Lib.hid (fun (h : ¬ Can l.cost) W => rCheck_no l.cost (by omega) h W)
 have Y3 := Lib.hid (fun (h : Can l.used) W => rCheck_yes l.used (by omega) h W)
 have X3 := Lib.hid (fun (h : ¬ Can l.used) W => rCheck_no l.used (by omega) h W)
 have S1 := Lib.hid (fun W => rSign_any l.qty (by omega) W)
 have S2 := Lib.hid (fun W => rSign_any l.cost (by omega) W)
 clear z1 z2 z3 z4 z5
 obtain ⟨c0, c1, c2, c3, c4, c5, c6⟩ := cells7 hk
 have HB := Lib.hid hB0
 clear hB0 hk
 go_enter Tryz.func80, Tryz.ntmps80
 go_wp2_with fail
 refine (N1.out _).mono ?_
 rintro e w1 ⟨g, rfl, rfl, hg⟩
 cases g
 case false =>
  go_wp2_with fail
  go_ret
  exact ⟨23, rfl, fun h => (by cases h), HB.out⟩
 have G1 := Lib.hid (hg rfl)
 clear hg N1
 go_wp2_with fail
 refine (N2.out _).mono ?_
 rintro e w1 ⟨rfl, rfl⟩
 cases hn : nameOk l.inst
 ·go_wp2_with fail
  go_ret
  exact ⟨23, rfl, fun h => (by cases h), HB.out⟩
 have G2 := Lib.hid hn
 clear hn N2
 go_wp2_with fail
 refine (rday19_any l.acq _).mono ?_
 rintro e w1 ⟨rfl, rfl⟩
 by_cases h3 : okDay l.acq
 case neg =>
  rw [decide_eq_false h3]
  clear h3
  go_wp2_with fail
  go_ret
  exact ⟨13, rfl, fun h => (by cases h), HB.out⟩
 rw [decide_eq_true h3]
 have G3 := Lib.hid h3
 clear h3
 go_wp2_with fail
 refine (rday19_any l.opn _).mono ?_
 rintro e w1 ⟨rfl, rfl⟩
 by_cases h4 : okDay l.opn
 case neg =>
  rw [decide_eq_false h4]
  clear h4
  go_wp2_with fail
  go_ret
  exact ⟨13, rfl, fun h => (by cases h), HB.out⟩
 rw [decide_eq_true h4]
 have G4 := Lib.hid h4
 clear h4
 by_cases h5 : l.opn < l.acq
 ·have t5 : decide (l.opn < l.acq) = true := decide_eq_true h5
  clear h5
  go_wp2_with fail
  go_ret
  exact ⟨8, rfl, fun h => (by cases h), HB.out⟩
 have t5 : decide (l.opn < l.acq) = false := decide_eq_false h5
 have G5 := Lib.hid (show l.acq ≤ l.opn by omega)
 clear h5
 go_wp2_with fail
 by_cases h6 : Can l.qty
 case neg =>
  refine (X1.out h6 _).mono ?_
  rintro e w1 ⟨rfl, rfl⟩
  clear h6
  go_wp2_with fail
  go_ret
  exact ⟨1, rfl, fun h => (by cases h), HB.out⟩
 refine (Y1.out h6 _).mono ?_
 rintro e w1 ⟨rfl, rfl⟩
 have G6 := Lib.hid h6
 clear h6 Y1 X1
 go_wp2_with fail
 by_cases h7 : Can l.cost
 case neg =>
  refine (X2.out h7 _).mono ?_
  rintro e w1 ⟨rfl, rfl⟩
  clear h7
  go_wp2_with fail
  go_ret
  exact ⟨1, rfl, fun h => (by cases h), HB.out⟩
 refine (Y2.out h7 _).mono ?_
 rintro e w1 ⟨rfl, rfl⟩
 have G7 := Lib.hid h7
 clear h7 Y2 X2
 go_wp2_with fail
 by_cases h8 : Can l.used
 case neg =>
  refine (X3.out h8 _).mono ?_
  rintro e w1 ⟨rfl, rfl⟩
  clear h8
  go_wp2_with fail
  go_ret
  exact ⟨1, rfl, fun h => (by cases h), HB.out⟩
 refine (Y3.out h8 _).mono ?_
 rintro e w1 ⟨rfl, rfl⟩
 have G8 := Lib.hid h8
 clear h8 Y3 X3
 go_wp2_with fail
 refine (S1.out _).mono ?_
 rintro e w1 ⟨rfl, rfl⟩
 by_cases h9 : 0 < vl l.qty
 case neg =>
  have t9 := cmpI_npos h9
  clear h9
  go_wp2_with fail
  go_ret
  exact ⟨2, rfl, fun h => (by cases h), HB.out⟩
 have t9 := cmpI_pos h9
 have G9 := Lib.hid h9
 clear h9
 go_wp2_with fail
 refine (S2.out _).mono ?_
 rintro e w1 ⟨rfl, rfl⟩
 by_cases h10 : vl l.cost < 0
 ·have t10 := cmpI_neg h10
  clear h10
  go_wp2_with fail
  go_ret
  exact ⟨2, rfl, fun h => (by cases h), HB.out⟩
 have t10 := cmpI_nneg h10
 have G10 := Lib.hid (show 0 ≤ vl l.cost by omega)
 clear h10
 have e1 := bytes_eq l.used ⟨#[]⟩
 rw [show (⟨#[]⟩ : ByteArray).toList = [] from by rw [Lib.toList_data]] at e1
 have e2 := bytes_eq l.used l.qty
 by_cases h11 : l.used = ⟨#[]⟩
 ·have G11 := Lib.hid h11
  rw [decide_eq_true h11] at e1
  clear h11 e2
  go_wp2_with fail
  go_ret
  exact ⟨0, rfl, fun _ => ⟨G1.out, G2.out, G3.out, G4.out, G5.out, G6.out, G7.out, G8.out, G9.out, G10.out, .inl G11.out⟩, HB.out⟩
 rw [decide_eq_false h11] at e1
 clear h11
 by_cases h12 : l.used = l.qty
 ·have G12 := Lib.hid h12
  rw [decide_eq_true h12] at e2
  clear h12
  go_wp2_with fail
  go_ret
  exact ⟨0, rfl, fun _ => ⟨G1.out, G2.out, G3.out, G4.out, G5.out, G6.out, G7.out, G8.out, G9.out, G10.out, .inr G12.out⟩, HB.out⟩
 rw [decide_eq_false h12] at e2
 clear h12
 go_wp2_with fail
 go_ret
 exact ⟨2, rfl, fun h => (by cases h), HB.out⟩
def findR : List Lot → ByteArray → Nat → Nat × Bool
 | [], _, _ => (0, false)
 | l :: r, id, k => if l.id = id then (k, true) else findR r id (k + 1)
theorem findR_skip : ∀ (a b : List Lot) (id : ByteArray) (k : Nat), (∀ x ∈ a, x.id ≠ id) → findR (a ++ b) id k = findR b id (k + a.length)
 | [], b, id, k, _ => rfl
 | l :: r, b, id, k, h => by
   rw [List.cons_append, findR, if_neg (h l (List.mem_cons_self ..)), findR_skip r b id (k + 1) (fun x hx => h x (List.mem_cons_of_mem _ hx)), List.length_cons]
   congr 1
   omega
theorem findR_none {a : List Lot} {id : ByteArray} (h : ∀ x ∈ a, x.id ≠ id) (k : Nat) : findR a id k = (0, false) := by
 have := findR_skip a [] id k h
 rw [List.append_nil] at this
 rw [this]; rfl
theorem findR_false : ∀ (a : List Lot) (id : ByteArray) (k : Nat), (findR a id k).2 = false → ∀ x ∈ a, x.id ≠ id
 | [], _, _, _, _, hx => by cases hx
 | l :: r, id, k, h, x, hx => by
   rw [findR] at h
   by_cases e : l.id = id
   ·rw [if_pos e] at h; cases h
   ·rw [if_neg e] at h
    rcases List.mem_cons.1 hx with rfl | hx
    ·exact e
    ·exact findR_false r id (k + 1) h x hx
theorem findR_hit {ls : List Lot} {m k : Nat} {l : Lot} {id : ByteArray} (hk : k < m) (hm : m ≤ ls.length) (hs : ls.take (k + 1) = ls.take k ++ [l]) (hn : ∀ x ∈ ls.take k, x.id ≠ id) (h : l.id = id) : findR (ls.take m) id 0 = (k, true) := by
 have e : ls.take m = ls.take k ++ (l :: (ls.take m).drop (k + 1)) := by
  have := List.take_append_drop (k + 1) (ls.take m)
  rw [List.take_take, show min (k + 1) m = k + 1 by omega, hs] at this
  rw [List.append_assoc] at this
  exact this.symm
 rw [e, findR_skip _ _ _ _ hn, findR, if_pos h, List.length_take]
 congr 1
 omega
theorem rFind_any (A : Option Addr) (ls : List Lot) (m c : Nat) (hm : m ≤ ls.length) (hl : ls.length ≤ 1000000) (id : ByteArray) (w : World) (hR : RdL w A ls) :
 Calls Tryz.prog 81 #[.slice A m c, .string id] w fun e w' => e = .returned (.tuple #[.int .i64 ((findR (ls.take m) id 0).1 : Int), .bool (findR (ls.take m) id 0).2]) ∧ w = w' := by
 have HR := Lib.hid hR
 clear hR
 go_enter Tryz.func81, Tryz.ntmps81
 go_wp2_with fail
 go_loop [6] (fun v => ∃ k : Nat, v = .int .i64 (k : Int) ∧ k ≤ m ∧ ∀ x ∈ ls.take k, x.id ≠ id) (fun v => m - (intOf v).toNat)
 case atStart => exact ⟨0, rfl, by omega, fun x hx => by simp at hx⟩
 case round =>
  obtain ⟨k, rfl, hk, hx⟩ := hrel
  have HX := Lib.hid hx
  clear hx
  rcases Nat.lt_or_ge k m with hlt | hge
  ·have hlt' : k < ls.length := by omega
   obtain ⟨l, hl'⟩ : ∃ l, ls[k]? = some l := ⟨_, List.getElem?_eq_getElem hlt'⟩
   obtain ⟨ad, rfl, had, hcell⟩ := HR.out (by intro e; rw [e] at hlt'; cases hlt')
   have hcx : decide ((k : Int) < (m : Int)) = true := by simp; omega
   obtain ⟨c0, c1, c2, c3, c4, c5, c6⟩ := hcell k l hl'
   have HSN : Hid (ls.take (k + 1) = ls.take k ++ [l]) := by
    rw [Hid, List.take_succ_eq_append_getElem hlt']
    congr 2
    rw [List.getElem?_eq_getElem hlt'] at hl'
    exact Option.some.inj hl'
   clear hcell hl'
   have e2 := bytes_eq l.id id
   by_cases h1 : l.id = id
   ·rw [decide_eq_true h1] at e2
    have H1 := Lib.hid h1
    clear h1
    go_wp2_with fail
    go_ret2
    refine ⟨?_, rfl⟩
    rw [findR_hit hlt hm HSN.out HX.out H1.out]
    rfl
   ·rw [decide_eq_false h1] at e2
    have H1 := Lib.hid h1
    clear h1
    go_wp2_with fail
    go_round
    case rel =>
     refine ⟨k + 1, by go_num, by omega, fun x hx => ?_⟩
     rw [HSN.out, List.mem_append] at hx
     rcases hx with hx | hx
     ·exact HX.out x hx
     ·rw [List.mem_singleton] at hx; subst hx; exact H1.out
    case measure => simp [intOf]; omega
  ·have hcx : decide ((k : Int) < (m : Int)) = false := by simp; omega
   have hkm : k = m := by omega
   subst hkm
   go_wp2_with fail
   go_ret2
   refine ⟨?_, rfl⟩
   rw [findR_none HX.out]
   rfl
theorem plain_any (i : Inst) (hs : i.sized) (w : World) : Calls Tryz.prog 154 #[i.enc] w (ChkPost w (plainOk i)) := by
 obtain ⟨W0, hW0, hB0, hz, hk⟩ := ibox i w
 obtain ⟨c0, c1, c2, c3, c4, c5, c6, c7, c8, c9, c10, c11, c12, c13, c14⟩ := cells15 hk
 have HB := Lib.hid hB0
 have HK : Hid (InstBox W0 w.heap.size i) := hk
 obtain ⟨z1, z2, z3, z4, z5, z6, z7, z8, z9⟩ := hs
 have S1 := Lib.hid (fun W => isign_any i.fn i.fd (by omega) W)
 have S2 := Lib.hid (fun W => isign_any i.cn i.cd (by omega) W)
 have S3 := Lib.hid (fun W => isign_any i.sn i.sd (by omega) W)
 clear hk hB0 hz z1 z2 z3 z4 z5 z6 z7 z8 z9
 unfold Inst.enc Inst.cells at *
 go_enter Tryz.func154, Tryz.ntmps154
 go_wp2_with fail
 refine (S1.out W0).mono ?_
 rintro e w1 ⟨rfl, b1⟩
 have hk1 := HK.out.below b1
 replace HB := Lib.hid (HB.out.trans (b1.mono HB.out.size))
 clear c0 c1 c2 c3 c4 c5 c6 c7 c8 c9 c10 c11 c12 c13 c14
 obtain ⟨c0, c1, c2, c3, c4, c5, c6, c7, c8, c9, c10, c11, c12, c13, c14⟩ := cells15 hk1
 replace HK := Lib.hid hk1
 clear b1 hk1 S1 hW0
 by_cases h1 : vl i.fn = 0
 case neg =>
  have th1 : (cmpI (vl i.fn) 0 == 0) = false := beq_eq_false_iff_ne.2 (fun e => h1 (cmpI_eq.1 e))
  have th1' : (cmpI (vl i.fn) 0 != 0) = true := by rw [bne, th1]; rfl
  have H := Lib.hid h1
  clear h1
  go_wp2_with fail
  go_ret
  exact ChkPost.bad (by decide) (fun h => H.out h.1) HB.out
 have th1 : (cmpI (vl i.fn) 0 == 0) = true := beq_iff_eq.2 (cmpI_eq.2 h1)
 have th1' : (cmpI (vl i.fn) 0 != 0) = false := by rw [bne, th1]; rfl
 have Hh1 := Lib.hid h1
 clear h1
 go_wp2_with fail
 refine (S2.out _).mono ?_
 rintro e w2 ⟨rfl, b1⟩
 have hk1 := HK.out.below b1
 replace HB := Lib.hid (HB.out.trans (b1.mono HB.out.size))
 clear c0 c1 c2 c3 c4 c5 c6 c7 c8 c9 c10 c11 c12 c13 c14
 obtain ⟨c0, c1, c2, c3, c4, c5, c6, c7, c8, c9, c10, c11, c12, c13, c14⟩ := cells15 hk1
 replace HK := Lib.hid hk1
 clear b1 hk1 S2
 by_cases h2 : vl i.cn = 0
 case neg =>
  have th2 : (cmpI (vl i.cn) 0 == 0) = false := beq_eq_false_iff_ne.2 (fun e => h2 (cmpI_eq.1 e))
  have th2' : (cmpI (vl i.cn) 0 != 0) = true := by rw [bne, th2]; rfl
  have H := Lib.hid h2
  clear h2
  go_wp2_with fail
  go_ret
  exact ChkPost.bad (by decide) (fun h => H.out h.2.1) HB.out
 have th2 : (cmpI (vl i.cn) 0 == 0) = true := beq_iff_eq.2 (cmpI_eq.2 h2)
 have th2' : (cmpI (vl i.cn) 0 != 0) = false := by rw [bne, th2]; rfl
 have Hh2 := Lib.hid h2
 clear h2
 by_cases h3 : i.months = 0
 case neg =>
  have th3 : (i.months == 0) = false := beq_eq_false_iff_ne.2 h3
  have th3' : (i.months != 0) = true := by rw [bne, th3]; rfl
  have H := Lib.hid h3
  clear h3
  go_wp2_with fail
  go_ret
  exact ChkPost.bad (by decide) (fun h => H.out h.2.2.1) HB.out
 have th3 : (i.months == 0) = true := beq_iff_eq.2 h3
 have th3' : (i.months != 0) = false := by rw [bne, th3]; rfl
 have Hh3 := Lib.hid h3
 clear h3
 by_cases h4 : i.count = 0
 case neg =>
  have th4 : (i.count == 0) = false := beq_eq_false_iff_ne.2 h4
  have th4' : (i.count != 0) = true := by rw [bne, th4]; rfl
  have H := Lib.hid h4
  clear h4
  go_wp2_with fail
  go_ret
  exact ChkPost.bad (by decide) (fun h => H.out h.2.2.2.1) HB.out
 have th4 : (i.count == 0) = true := beq_iff_eq.2 h4
 have th4' : (i.count != 0) = false := by rw [bne, th4]; rfl
 have Hh4 := Lib.hid h4
 clear h4
 go_wp2_with fail
 refine (S3.out _).mono ?_
 rintro e w3 ⟨rfl, b1⟩
 have hk1 := HK.out.below b1
 replace HB := Lib.hid (HB.out.trans (b1.mono HB.out.size))
 clear c0 c1 c2 c3 c4 c5 c6 c7 c8 c9 c10 c11 c12 c13 c14
 obtain ⟨c0, c1, c2, c3, c4, c5, c6, c7, c8, c9, c10, c11, c12, c13, c14⟩ := cells15 hk1
 replace HK := Lib.hid hk1
 clear b1 hk1 S3
 by_cases h5 : vl i.sn = 0
 case neg =>
  have th5 : (cmpI (vl i.sn) 0 == 0) = false := beq_eq_false_iff_ne.2 (fun e => h5 (cmpI_eq.1 e))
  have th5' : (cmpI (vl i.sn) 0 != 0) = true := by rw [bne, th5]; rfl
  have H := Lib.hid h5
  clear h5
  go_wp2_with fail
  go_ret
  exact ChkPost.bad (by decide) (fun h => H.out h.2.2.2.2.1) HB.out
 have th5 : (cmpI (vl i.sn) 0 == 0) = true := beq_iff_eq.2 (cmpI_eq.2 h5)
 have th5' : (cmpI (vl i.sn) 0 != 0) = false := by rw [bne, th5]; rfl
 have Hh5 := Lib.hid h5
 clear h5
 by_cases h6 : i.other = ⟨#[]⟩
 case neg =>
  have th6 : (i.other.toList == []) = false := by rw [str_empty, decide_eq_false h6]
  have H := Lib.hid h6
  clear h6
  go_wp2_with fail
  go_ret
  exact ChkPost.bad (by decide) (fun h => H.out h.2.2.2.2.2) HB.out
 have th6 : (i.other.toList == []) = true := by rw [str_empty, decide_eq_true h6]
 have Hh6 := Lib.hid h6
 clear h6
 go_wp2_with fail
 go_ret
 exact ChkPost.good ⟨Hh1.out, Hh2.out, Hh3.out, Hh4.out, Hh5.out, Hh6.out⟩ HB.out
theorem forward_any (i : Inst) (hs : i.sized) (w : World) : Calls Tryz.prog 156 #[i.enc] w (ChkPost w (fwdOk i)) := by
 obtain ⟨W0, hW0, hB0, hz, hk⟩ := ibox i w
 obtain ⟨c0, c1, c2, c3, c4, c5, c6, c7, c8, c9, c10, c11, c12, c13, c14⟩ := cells15 hk
 have HB := Lib.hid hB0
 have HK : Hid (InstBox W0 w.heap.size i) := hk
 obtain ⟨z1, z2, z3, z4, z5, z6, z7, z8, z9⟩ := hs
 have S0 := Lib.hid (fun W => isCode_any i.other (by omega) W)
 have S1 := Lib.hid (fun W => isign_any i.fn i.fd (by omega) W)
 have S2 := Lib.hid (fun W => isign_any i.cn i.cd (by omega) W)
 have S3 := Lib.hid (fun W => isign_any i.sn i.sd (by omega) W)
 clear hk hB0 hz z1 z2 z3 z4 z5 z6 z7 z8 z9
 unfold Inst.enc Inst.cells at *
 go_enter Tryz.func156, Tryz.ntmps156
 go_wp2_with fail
 refine (S0.out W0).mono ?_
 rintro e w4 ⟨rfl, b1⟩
 have hk1 := HK.out.below b1
 replace HB := Lib.hid (HB.out.trans (b1.mono HB.out.size))
 clear c0 c1 c2 c3 c4 c5 c6 c7 c8 c9 c10 c11 c12 c13 c14
 obtain ⟨c0, c1, c2, c3, c4, c5, c6, c7, c8, c9, c10, c11, c12, c13, c14⟩ := cells15 hk1
 replace HK := Lib.hid hk1
 clear b1 hk1 S0 hW0
 by_cases h1 : codeOk i.other = true
 case neg =>
  rw [Bool.not_eq_true] at h1
  rw [h1]
  have H := Lib.hid h1
  clear h1
  go_wp2_with fail
  go_ret
  exact ChkPost.bad (by decide) (fun h => by have := h.1; rw [H.out] at this; cases this) HB.out
 rw [h1]
 have Hh1 := Lib.hid h1
 clear h1
 by_cases h2 : i.other ≠ i.cur
 case neg =>
  have th2 : (i.other.toList == i.cur.toList) = true := by rw [Classical.not_not] at h2; rw [h2]; exact beq_self_eq_true _
  have H := Lib.hid h2
  clear h2
  go_wp2_with fail
  go_ret
  exact ChkPost.bad (by decide) (fun h => H.out h.2.1) HB.out
 have th2 : (i.other.toList == i.cur.toList) = false := neq_toList h2
 have Hh2 := Lib.hid h2
 clear h2
 go_wp2_with fail
 refine (S3.out _).mono ?_
 rintro e w5 ⟨rfl, b1⟩
 have hk1 := HK.out.below b1
 replace HB := Lib.hid (HB.out.trans (b1.mono HB.out.size))
 clear c0 c1 c2 c3 c4 c5 c6 c7 c8 c9 c10 c11 c12 c13 c14
 obtain ⟨c0, c1, c2, c3, c4, c5, c6, c7, c8, c9, c10, c11, c12, c13, c14⟩ := cells15 hk1
 replace HK := Lib.hid hk1
 clear b1 hk1 S3
 by_cases h3 : 0 < vl i.sn
 case neg =>
  have th3 : decide (cmpI (vl i.sn) 0 ≤ 0) = true := cmpI_npos h3
  have H := Lib.hid h3
  clear h3
  go_wp2_with fail
  go_ret
  exact ChkPost.bad (by decide) (fun h => by have := h.2.2.1; have := H.out; omega) HB.out
 have th3 : decide (cmpI (vl i.sn) 0 ≤ 0) = false := cmpI_pos h3
 have Hh3 := Lib.hid h3
 clear h3
 go_wp2_with fail
 refine (S1.out _).mono ?_
 rintro e w6 ⟨rfl, b1⟩
 have hk1 := HK.out.below b1
 replace HB := Lib.hid (HB.out.trans (b1.mono HB.out.size))
 clear c0 c1 c2 c3 c4 c5 c6 c7 c8 c9 c10 c11 c12 c13 c14
 obtain ⟨c0, c1, c2, c3, c4, c5, c6, c7, c8, c9, c10, c11, c12, c13, c14⟩ := cells15 hk1
 replace HK := Lib.hid hk1
 clear b1 hk1 S1
 by_cases h4 : vl i.fn = 0
 case neg =>
  have th4 : (cmpI (vl i.fn) 0 == 0) = false := beq_eq_false_iff_ne.2 (fun e => h4 (cmpI_eq.1 e))
  have th4' : (cmpI (vl i.fn) 0 != 0) = true := by rw [bne, th4]; rfl
  have H := Lib.hid h4
  clear h4
  go_wp2_with fail
  go_ret
  exact ChkPost.bad (by decide) (fun h => H.out h.2.2.2.1) HB.out
 have th4 : (cmpI (vl i.fn) 0 == 0) = true := beq_iff_eq.2 (cmpI_eq.2 h4)
 have th4' : (cmpI (vl i.fn) 0 != 0) = false := by rw [bne, th4]; rfl
 have Hh4 := Lib.hid h4
 clear h4
 go_wp2_with fail
 refine (S2.out _).mono ?_
 rintro e w7 ⟨rfl, b1⟩
 have hk1 := HK.out.below b1
 replace HB := Lib.hid (HB.out.trans (b1.mono HB.out.size))
 clear c0 c1 c2 c3 c4 c5 c6 c7 c8 c9 c10 c11 c12 c13 c14
 obtain ⟨c0, c1, c2, c3, c4, c5, c6, c7, c8, c9, c10, c11, c12, c13, c14⟩ := cells15 hk1
 replace HK := Lib.hid hk1
 clear b1 hk1 S2
 by_cases h5 : vl i.cn = 0
 case neg =>
  have th5 : (cmpI (vl i.cn) 0 == 0) = false := beq_eq_false_iff_ne.2 (fun e => h5 (cmpI_eq.1 e))
  have th5' : (cmpI (vl i.cn) 0 != 0) = true := by rw [bne, th5]; rfl
  have H := Lib.hid h5
  clear h5
  go_wp2_with fail
  go_ret
  exact ChkPost.bad (by decide) (fun h => H.out h.2.2.2.2.1) HB.out
 have th5 : (cmpI (vl i.cn) 0 == 0) = true := beq_iff_eq.2 (cmpI_eq.2 h5)
 have th5' : (cmpI (vl i.cn) 0 != 0) = false := by rw [bne, th5]; rfl
 have Hh5 := Lib.hid h5
 clear h5
 by_cases h6 : i.months = 0
 case neg =>
  have th6 : (i.months == 0) = false := beq_eq_false_iff_ne.2 h6
  have th6' : (i.months != 0) = true := by rw [bne, th6]; rfl
  have H := Lib.hid h6
  clear h6
  go_wp2_with fail
  go_ret
  exact ChkPost.bad (by decide) (fun h => H.out h.2.2.2.2.2.1) HB.out
 have th6 : (i.months == 0) = true := beq_iff_eq.2 h6
 have th6' : (i.months != 0) = false := by rw [bne, th6]; rfl
 have Hh6 := Lib.hid h6
 clear h6
 by_cases h7 : i.count = 0
 case neg =>
  have th7 : (i.count == 0) = false := beq_eq_false_iff_ne.2 h7
  have th7' : (i.count != 0) = true := by rw [bne, th7]; rfl
  have H := Lib.hid h7
  clear h7
  go_wp2_with fail
  go_ret
  exact ChkPost.bad (by decide) (fun h => H.out h.2.2.2.2.2.2) HB.out
 have th7 : (i.count == 0) = true := beq_iff_eq.2 h7
 have th7' : (i.count != 0) = false := by rw [bne, th7]; rfl
 have Hh7 := Lib.hid h7
 clear h7
 go_wp2_with fail
 go_ret
 exact ChkPost.good ⟨Hh1.out, Hh2.out, Hh3.out, Hh4.out, Hh5.out, Hh6.out, Hh7.out⟩ HB.out
end Go.Proofs.YtpgjmdggblnfkaaGreatDoor
