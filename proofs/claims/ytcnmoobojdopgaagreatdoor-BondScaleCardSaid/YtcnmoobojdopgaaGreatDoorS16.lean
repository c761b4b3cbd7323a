/-
  Fractions: apply, and what is exported.
-/
import Derived.Test.YtcnmoobojdopgaaGreatDoorS15
import Derived.Laws.EntriesVeiled
set_option linter.unusedVariables false
set_option linter.unusedSimpArgs false
set_option maxHeartbeats 16000000
set_option maxRecDepth 100000
namespace Go.Proofs.YtcnmoobojdopgaaGreatDoor
open Go.RowKit Tr Go.Shelf
def opv (f : Nat) (B : Nat) : Value := .func (.func f) #[] #[.pointer (some ⟨B, 0, none⟩)]
def opsv (B : Nat) : Value := .agg #[opv 103 B, opv 104 B, opv 105 B, opv 106 B]
def OpsPost (w : World) (e : Ending) (w' : World) : Prop := ∃ B, e = .returned (opsv B) ∧ MulBox w' B ∧ Below w.heap.size w w'
theorem operations_any (w : World) : Calls Tryz.prog 48 #[] w (OpsPost w) := by
 obtain ⟨W0, hW0', hB0, hz, k0, k1⟩ := box2 w (.cells #[.nilFunc, .nilFunc, .nilFunc, .nilFunc] 83) (.cells #[.nilFunc] 115)
 have hW0 := hW0'.symm
 have a0 := Lib.cell_of_heap k1 0
 have f0 := Lib.frozen_of_heap k1 0
 simp at a0
 obtain ⟨W1, hW1⟩ : ∃ W1, W0.setCell ⟨w.heap.size + 1, 0, none⟩ (.func (.func 102) #[] #[]) = W1 := ⟨_, rfl⟩
 have k2 : MulBox W1 (w.heap.size + 1) := by rw [← hW1]; exact Boxed.set _ k1
 have k3 : W1.heap[w.heap.size]? = some (.cells #[.nilFunc, .nilFunc, .nilFunc, .nilFunc] 83) := by rw [← hW1]; exact (Below.heap_setCell _ _ _ _ (by simp)).trans k0
 have HB1 : Hid (Below w.heap.size w W1) := by rw [← hW1]; exact hB0.setCell (p := ⟨w.heap.size + 1, 0, none⟩) (by simp) _
 have c0 := Lib.cell_of_heap k3 0
 have c1 := Lib.cell_of_heap k3 1
 have c2 := Lib.cell_of_heap k3 2
 have c3 := Lib.cell_of_heap k3 3
 have g0 := Lib.frozen_of_heap k3 0
 have g1 := Lib.frozen_of_heap k3 1
 have g2 := Lib.frozen_of_heap k3 2
 have g3 := Lib.frozen_of_heap k3 3
 simp at c0 c1 c2 c3
 have K2 := Lib.hid k2
 have K3 := Lib.hid k3
 clear hB0 hz k0 k1 k2 k3 hW0'
 go_enter Tryz.func48, Tryz.ntmps48
 go_wp2_with fail
 have k4 : ((((W1.setCell ⟨w.heap.size, 0, none⟩ (opv 103 (w.heap.size + 1))).setCell ⟨w.heap.size, 1, none⟩ (opv 104 (w.heap.size + 1))).setCell ⟨w.heap.size, 2, none⟩ (opv 105 (w.heap.size + 1))).setCell ⟨w.heap.size, 3, none⟩ (opv 106 (w.heap.size + 1))).heap[w.heap.size]? = some (.cells #[opv 103 (w.heap.size + 1), opv 104 (w.heap.size + 1), opv 105 (w.heap.size + 1), opv 106 (w.heap.size + 1)] 83) := by
  have := K3.out
  simp [World.setCell, Array.getElem?_modify, this]
 have m0 := Lib.cell_of_heap k4 0
 have m1 := Lib.cell_of_heap k4 1
 have m2 := Lib.cell_of_heap k4 2
 have m3 := Lib.cell_of_heap k4 3
 simp [opv] at m0 m1 m2 m3
 refine bodyPost_ret (v := opsv (w.heap.size + 1)) (by simp [results, Tryz.results48, go_sem, m0, m1, m2, m3, opsv, opv]) rfl ?_
 refine ⟨_, rfl, ?_, ?_⟩
 ·refine (Below.heap_setCell _ _ _ _ (by simp)).trans ((Below.heap_setCell _ _ _ _ (by simp)).trans ((Below.heap_setCell _ _ _ _ (by simp)).trans ((Below.heap_setCell _ _ _ _ (by simp)).trans K2.out)))
 ·exact (((HB1.out.setCell (p := ⟨w.heap.size, 0, none⟩) (Nat.le_refl _) _).setCell (p := ⟨w.heap.size, 1, none⟩) (Nat.le_refl _) _).setCell (p := ⟨w.heap.size, 2, none⟩) (Nat.le_refl _) _).setCell (p := ⟨w.heap.size, 3, none⟩) (Nat.le_refl _) _
def OpOk (f : Nat) (X Y : Int → Int → Int → Int → Int) : Prop := ∀ (a b c d : ByteArray) (w : World) (B : Nat), a.size ≤ 1000000 → b.size ≤ 1000000 → c.size ≤ 1000000 → d.size ≤ 1000000 → MulBox w B → Tabs w →
 Calls Tryz.prog f #[.string a, .string b, .string c, .string d, .pointer (some ⟨B, 0, none⟩)] w (OpPost w (X (vl a) (vl b) (vl c) (vl d)) (Y (vl a) (vl b) (vl c) (vl d)))
theorem apply_any (f : Nat) (X Y : Int → Int → Int → Int → Int) (hop : OpOk f X Y) (hen : ∀ args w, (callFunc f args).run Tryz.prog w = .ok (.enter f args) w) (n1 d1 n2 d2 : ByteArray) (B : Nat) (w : World) (s1 : n1.size ≤ 900000) (s2 : d1.size ≤ 900000) (s3 : n2.size ≤ 900000) (s4 : d2.size ≤ 900000)
 (hY : Y (vl n1) (vl (dd d1)) (vl n2) (vl (dd d2)) ≠ 0) (zX : (I (X (vl n1) (vl (dd d1)) (vl n2) (vl (dd d2)))).size ≤ 3000000) (zY : (I (Y (vl n1) (vl (dd d1)) (vl n2) (vl (dd d2)))).size ≤ 3000000) (hB : MulBox w B) (ht : Tabs w) :
 Calls Tryz.prog 47 #[opv f B, .agg #[.string n1, .string d1], .agg #[.string n2, .string d2]] w fun e w' => e = .returned (fenc (Rat.divInt (X (vl n1) (vl (dd d1)) (vl n2) (vl (dd d2))) (Y (vl n1) (vl (dd d1)) (vl n2) (vl (dd d2))))) ∧ Below w.heap.size w w' := by
 have HT := Lib.hid ht
 have HB := Lib.hid hB
 have HOP := Lib.hid hop
 have HY := Lib.hid hY
 have ZX := Lib.hid zX
 have ZY := Lib.hid zY
 clear ht hB hop hY zX zY
 obtain ⟨W0, hW0', hB0, hz, k0, k1, k2⟩ := box3 w (.cells #[.string n1, .string d1] 25) (.cells #[.string n2, .string d2] 25) (.cells #[.string ⟨#[]⟩, .string ⟨#[]⟩] 25)
 have hW0 := hW0'.symm
 have a0 := Lib.cell_of_heap k0 0
 have a1 := Lib.cell_of_heap k0 1
 simp at a0 a1
 clear hW0'
 unfold opv
 go_enter Tryz.func47, Tryz.ntmps47
 go_wp2_with fail
 refine (parts_any n1 d1 _ (by omega)).mono ?_
 rintro e w1 ⟨rfl, hb1⟩
 have B1 := hB0.trans (hb1.mono hB0.size)
 have l1 := (hb1.block (w.heap.size + 1) (by omega)).trans k1
 have l2 := (hb1.block (w.heap.size + 1 + 1) (by omega)).trans k2
 have z1 : w.heap.size + 3 ≤ w1.heap.size := by have := hb1.size; omega
 have c0 := Lib.cell_of_heap l1 0
 have c1 := Lib.cell_of_heap l1 1
 simp at c0 c1
 clear a0 a1 k0 k1 k2 hb1 hB0 hz hW0
 go_wp2_with fail
 refine (parts_any n2 d2 _ (by omega)).mono ?_
 rintro e w2 ⟨rfl, hb2⟩
 have B2 := B1.trans (hb2.mono B1.size)
 have l3 := (hb2.block (w.heap.size + 1 + 1) (by omega)).trans l2
 have z2 : w.heap.size + 3 ≤ w2.heap.size := by have := hb2.size; omega
 clear c0 c1 l1 l2 hb2 B1 z1
 have L3 := Lib.hid l3
 clear l3
 have e1 := dd_size d1
 have e2 := dd_size d2
 go_wp2_with fail
 refine (HOP.out n1 (dd d1) n2 (dd d2) w2 B (by omega) (by omega) (by omega) (by omega) (HB.out.below B2) (HT.out.below B2)).mono ?_
 rintro e w3 ⟨rfl, hb3⟩
 have B3 := B2.trans (hb3.mono B2.size)
 have l4 := (hb3.block (w.heap.size + 1 + 1) (by omega)).trans L3.out
 have z3 : w.heap.size + 3 ≤ w3.heap.size := by have := hb3.size; omega
 have L4 := Lib.hid l4
 clear hb3 B2 L3 z2 l4
 generalize hx : X (vl n1) (vl (dd d1)) (vl n2) (vl (dd d2)) = x at ZX ZY HY ⊢
 generalize hy : Y (vl n1) (vl (dd d1)) (vl n2) (vl (dd d2)) = y at ZX ZY HY ⊢
 have HX := Lib.hid hx
 have HYY := Lib.hid hy
 clear hx hy
 go_wp2_with fail
 refine (made_any (I x) (I y) w3 ZX.out ZY.out (by rw [vl_I]; exact HY.out) (HT.out.below B3)).mono ?_
 rintro e w4 ⟨rfl, hb4⟩
 rw [vl_I, vl_I]
 generalize hq : Rat.divInt x y = q
 have HQ := Lib.hid hq
 clear hq
 unfold fenc
 have B4 := B3.trans (hb4.mono B3.size)
 have l5 := (hb4.block (w.heap.size + 1 + 1) (by omega)).trans L4.out
 have c0 := Lib.cell_of_heap l5 0
 have c1 := Lib.cell_of_heap l5 1
 have f0 := Lib.frozen_of_heap l5 0
 have f1 := Lib.frozen_of_heap l5 1
 simp at c0 c1
 have L5 := Lib.hid l5
 have HB4 := Lib.hid B4
 clear hb4 B3 L4 l5 B4 HOP
 go_wp2_with fail
 have k6 := set2 L5.out (.string (I q.num)) (.string (dn q))
 have m0 := Lib.cell_of_heap k6 0
 have m1 := Lib.cell_of_heap k6 1
 simp at m0 m1
 refine bodyPost_ret (v := .agg #[.string (I q.num), .string (dn q)]) (by simp [results, Tryz.results47, go_sem, m0, m1]) rfl ?_
 exact ⟨by rw [HX.out, HYY.out, HQ.out]; rfl, (HB4.out.setCell (p := ⟨w.heap.size + 1 + 1, 0, none⟩) (by simp; omega) _).setCell (p := ⟨w.heap.size + 1 + 1, 1, none⟩) (by simp; omega) _⟩
end Go.Proofs.YtcnmoobojdopgaaGreatDoor
