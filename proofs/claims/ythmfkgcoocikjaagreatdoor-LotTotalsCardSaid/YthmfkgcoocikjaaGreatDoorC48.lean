/-
  lot.Cut and trancheref19.Cut where they refuse. (Printed by gen_cut5.py.)
-/
import Derived.Test.YthmfkgcoocikjaaGreatDoorC47
set_option linter.unusedVariables false
set_option linter.unusedSimpArgs false
namespace Go.Proofs.YthmfkgcoocikjaaGreatDoor
open Go.RowKit Tr Go.Shelf
set_option maxHeartbeats 8000000 in
set_option maxRecDepth 100000 in
theorem lCut_e1 (l : Lot) (q : ByteArray) (hs : l.sized) (q1 : q.size ≤ 1000) (h : lchk l ≠ 0) (w : World) (ht : Tabs w) :
 Calls Tryz.prog 21 #[l.enc, .string q] w fun e w' => e = .returned (.tuple #[zeroLot.enc, zeroLot.enc, .int .i64 1]) ∧ Below w.heap.size w w' := by
 have HT := Lib.hid ht
 have CW := CutW.start w l
 obtain ⟨W0, hW0⟩ : ∃ W0, (((w.alloc (.cells l.cells 36)).alloc (.cells zeroLot.cells 36)).alloc (.cells zeroLot.cells 36)) = W0 := ⟨_, rfl⟩
 rw [hW0] at CW
 have k0 := CW.ib
 have c0 := Lib.cell_of_heap k0 0
 have c1 := Lib.cell_of_heap k0 1
 have c2 := Lib.cell_of_heap k0 2
 have c3 := Lib.cell_of_heap k0 3
 have c4 := Lib.cell_of_heap k0 4
 have c5 := Lib.cell_of_heap k0 5
 have c6 := Lib.cell_of_heap k0 6
 simp [Lot.cells] at c0 c1 c2 c3 c4 c5 c6
 have CW0 := Lib.hid CW
 have HK := Lib.hid (fun W (hW : Tabs W) => lCheck_any l hs W hW)
 have t1 : (lchk l == 0) = false := beq_eq_false_iff_ne.2 h
 have t1' : (lchk l != 0) = true := by rw [bne, t1]; rfl
 clear CW k0 hs h ht
 unfold Lot.enc Lot.cells at *
 unfold zeroLot at hW0
 dsimp only at hW0
 go_enter Tryz.func21, Tryz.ntmps21
 go_wp2_with fail
 try rw [hW0]
 refine (HK.out W0 (HT.out.below CW0.out.be)).mono ?_
 rintro e w1 ⟨rfl, b1⟩
 have CW1 := Lib.hid (CW0.out.below b1)
 clear b1 HK hW0 c0 c1 c2 c3 c4 c5 c6
 have ga := CW1.out.za
 have gb := CW1.out.zb
 have m0 := Lib.cell_of_heap ga 0
 have m1 := Lib.cell_of_heap ga 1
 have m2 := Lib.cell_of_heap ga 2
 have m3 := Lib.cell_of_heap ga 3
 have m4 := Lib.cell_of_heap ga 4
 have m5 := Lib.cell_of_heap ga 5
 have m6 := Lib.cell_of_heap ga 6
 simp [Lot.cells, zeroLot] at m0 m1 m2 m3 m4 m5 m6
 have f0 := Lib.frozen_of_heap ga 0
 have f1 := Lib.frozen_of_heap ga 1
 have f2 := Lib.frozen_of_heap ga 2
 have f3 := Lib.frozen_of_heap ga 3
 have f4 := Lib.frozen_of_heap ga 4
 have f5 := Lib.frozen_of_heap ga 5
 have f6 := Lib.frozen_of_heap ga 6
 have n0 := Lib.cell_of_heap gb 0
 have n1 := Lib.cell_of_heap gb 1
 have n2 := Lib.cell_of_heap gb 2
 have n3 := Lib.cell_of_heap gb 3
 have n4 := Lib.cell_of_heap gb 4
 have n5 := Lib.cell_of_heap gb 5
 have n6 := Lib.cell_of_heap gb 6
 simp [Lot.cells, zeroLot] at n0 n1 n2 n3 n4 n5 n6
 have g0 := Lib.frozen_of_heap gb 0
 have g1 := Lib.frozen_of_heap gb 1
 have g2 := Lib.frozen_of_heap gb 2
 have g3 := Lib.frozen_of_heap gb 3
 have g4 := Lib.frozen_of_heap gb 4
 have g5 := Lib.frozen_of_heap gb 5
 have g6 := Lib.frozen_of_heap gb 6
 clear ga gb
 have hne1 : w.heap.size + 1 ≠ w.heap.size + 2 := by omega
 have hne2 : w.heap.size + 2 ≠ w.heap.size + 1 := by omega
 go_wp2_with fail
 clear m0 m1 m2 m3 m4 m5 m6 n0 n1 n2 n3 n4 n5 n6
 have hA : LotBox ((((((((((((((w1.setCell ⟨w.heap.size + 1, 0, none⟩ (.string ⟨#[]⟩)).setCell ⟨w.heap.size + 1, 1, none⟩ (.string ⟨#[]⟩)).setCell ⟨w.heap.size + 1, 2, none⟩ (.int .i64 0)).setCell ⟨w.heap.size + 1, 3, none⟩ (.int .i64 0)).setCell ⟨w.heap.size + 1, 4, none⟩ (.string ⟨#[]⟩)).setCell ⟨w.heap.size + 1, 5, none⟩ (.string ⟨#[]⟩)).setCell ⟨w.heap.size + 1, 6, none⟩ (.string ⟨#[]⟩)).setCell ⟨w.heap.size + 2, 0, none⟩ (.string ⟨#[]⟩)).setCell ⟨w.heap.size + 2, 1, none⟩ (.string ⟨#[]⟩)).setCell ⟨w.heap.size + 2, 2, none⟩ (.int .i64 0)).setCell ⟨w.heap.size + 2, 3, none⟩ (.int .i64 0)).setCell ⟨w.heap.size + 2, 4, none⟩ (.string ⟨#[]⟩)).setCell ⟨w.heap.size + 2, 5, none⟩ (.string ⟨#[]⟩)).setCell ⟨w.heap.size + 2, 6, none⟩ (.string ⟨#[]⟩)) (w.heap.size + 1) zeroLot := (lfar7 (by omega) _ _ _ _ _ _ _).trans (lset7 CW1.out.za _ _ _ _ _ _ _)
 have hB : LotBox ((((((((((((((w1.setCell ⟨w.heap.size + 1, 0, none⟩ (.string ⟨#[]⟩)).setCell ⟨w.heap.size + 1, 1, none⟩ (.string ⟨#[]⟩)).setCell ⟨w.heap.size + 1, 2, none⟩ (.int .i64 0)).setCell ⟨w.heap.size + 1, 3, none⟩ (.int .i64 0)).setCell ⟨w.heap.size + 1, 4, none⟩ (.string ⟨#[]⟩)).setCell ⟨w.heap.size + 1, 5, none⟩ (.string ⟨#[]⟩)).setCell ⟨w.heap.size + 1, 6, none⟩ (.string ⟨#[]⟩)).setCell ⟨w.heap.size + 2, 0, none⟩ (.string ⟨#[]⟩)).setCell ⟨w.heap.size + 2, 1, none⟩ (.string ⟨#[]⟩)).setCell ⟨w.heap.size + 2, 2, none⟩ (.int .i64 0)).setCell ⟨w.heap.size + 2, 3, none⟩ (.int .i64 0)).setCell ⟨w.heap.size + 2, 4, none⟩ (.string ⟨#[]⟩)).setCell ⟨w.heap.size + 2, 5, none⟩ (.string ⟨#[]⟩)).setCell ⟨w.heap.size + 2, 6, none⟩ (.string ⟨#[]⟩)) (w.heap.size + 2) zeroLot := lset7 (w := (((((((w1.setCell ⟨w.heap.size + 1, 0, none⟩ (.string ⟨#[]⟩)).setCell ⟨w.heap.size + 1, 1, none⟩ (.string ⟨#[]⟩)).setCell ⟨w.heap.size + 1, 2, none⟩ (.int .i64 0)).setCell ⟨w.heap.size + 1, 3, none⟩ (.int .i64 0)).setCell ⟨w.heap.size + 1, 4, none⟩ (.string ⟨#[]⟩)).setCell ⟨w.heap.size + 1, 5, none⟩ (.string ⟨#[]⟩)).setCell ⟨w.heap.size + 1, 6, none⟩ (.string ⟨#[]⟩))) ((lfar7 (by omega) _ _ _ _ _ _ _).trans CW1.out.zb) _ _ _ _ _ _ _
 have hE : Below w.heap.size w ((((((((((((((w1.setCell ⟨w.heap.size + 1, 0, none⟩ (.string ⟨#[]⟩)).setCell ⟨w.heap.size + 1, 1, none⟩ (.string ⟨#[]⟩)).setCell ⟨w.heap.size + 1, 2, none⟩ (.int .i64 0)).setCell ⟨w.heap.size + 1, 3, none⟩ (.int .i64 0)).setCell ⟨w.heap.size + 1, 4, none⟩ (.string ⟨#[]⟩)).setCell ⟨w.heap.size + 1, 5, none⟩ (.string ⟨#[]⟩)).setCell ⟨w.heap.size + 1, 6, none⟩ (.string ⟨#[]⟩)).setCell ⟨w.heap.size + 2, 0, none⟩ (.string ⟨#[]⟩)).setCell ⟨w.heap.size + 2, 1, none⟩ (.string ⟨#[]⟩)).setCell ⟨w.heap.size + 2, 2, none⟩ (.int .i64 0)).setCell ⟨w.heap.size + 2, 3, none⟩ (.int .i64 0)).setCell ⟨w.heap.size + 2, 4, none⟩ (.string ⟨#[]⟩)).setCell ⟨w.heap.size + 2, 5, none⟩ (.string ⟨#[]⟩)).setCell ⟨w.heap.size + 2, 6, none⟩ (.string ⟨#[]⟩)) := lbelow7 (by omega) (lbelow7 (by omega) CW1.out.be _ _ _ _ _ _ _) _ _ _ _ _ _ _
 generalize ((((((((((((((w1.setCell ⟨w.heap.size + 1, 0, none⟩ (.string ⟨#[]⟩)).setCell ⟨w.heap.size + 1, 1, none⟩ (.string ⟨#[]⟩)).setCell ⟨w.heap.size + 1, 2, none⟩ (.int .i64 0)).setCell ⟨w.heap.size + 1, 3, none⟩ (.int .i64 0)).setCell ⟨w.heap.size + 1, 4, none⟩ (.string ⟨#[]⟩)).setCell ⟨w.heap.size + 1, 5, none⟩ (.string ⟨#[]⟩)).setCell ⟨w.heap.size + 1, 6, none⟩ (.string ⟨#[]⟩)).setCell ⟨w.heap.size + 2, 0, none⟩ (.string ⟨#[]⟩)).setCell ⟨w.heap.size + 2, 1, none⟩ (.string ⟨#[]⟩)).setCell ⟨w.heap.size + 2, 2, none⟩ (.int .i64 0)).setCell ⟨w.heap.size + 2, 3, none⟩ (.int .i64 0)).setCell ⟨w.heap.size + 2, 4, none⟩ (.string ⟨#[]⟩)).setCell ⟨w.heap.size + 2, 5, none⟩ (.string ⟨#[]⟩)).setCell ⟨w.heap.size + 2, 6, none⟩ (.string ⟨#[]⟩)) = W9 at hA hB hE ⊢
 have m0 := Lib.cell_of_heap hA 0
 have m1 := Lib.cell_of_heap hA 1
 have m2 := Lib.cell_of_heap hA 2
 have m3 := Lib.cell_of_heap hA 3
 have m4 := Lib.cell_of_heap hA 4
 have m5 := Lib.cell_of_heap hA 5
 have m6 := Lib.cell_of_heap hA 6
 simp [Lot.cells, zeroLot] at m0 m1 m2 m3 m4 m5 m6
 have n0 := Lib.cell_of_heap hB 0
 have n1 := Lib.cell_of_heap hB 1
 have n2 := Lib.cell_of_heap hB 2
 have n3 := Lib.cell_of_heap hB 3
 have n4 := Lib.cell_of_heap hB 4
 have n5 := Lib.cell_of_heap hB 5
 have n6 := Lib.cell_of_heap hB 6
 simp [Lot.cells, zeroLot] at n0 n1 n2 n3 n4 n5 n6
 exact bodyPost_ret (v := .tuple #[.agg #[.string ⟨#[]⟩, .string ⟨#[]⟩, .int .i64 0, .int .i64 0, .string ⟨#[]⟩, .string ⟨#[]⟩, .string ⟨#[]⟩], .agg #[.string ⟨#[]⟩, .string ⟨#[]⟩, .int .i64 0, .int .i64 0, .string ⟨#[]⟩, .string ⟨#[]⟩, .string ⟨#[]⟩], .int .i64 1]) (by simp [results, Tryz.results21, go_sem, m0, m1, m2, m3, m4, m5, m6, n0, n1, n2, n3, n4, n5, n6]) rfl ⟨rfl, hE⟩
set_option maxHeartbeats 8000000 in
set_option maxRecDepth 100000 in
theorem lCut_e2 (l : Lot) (q : ByteArray) (hs : l.sized) (q1 : q.size ≤ 1000) (h : l.ok) (hq : ¬ Can q) (w : World) (ht : Tabs w) :
 Calls Tryz.prog 21 #[l.enc, .string q] w fun e w' => e = .returned (.tuple #[zeroLot.enc, zeroLot.enc, .int .i64 1]) ∧ Below w.heap.size w w' := by
 have HT := Lib.hid ht
 have CW := CutW.start w l
 obtain ⟨W0, hW0⟩ : ∃ W0, (((w.alloc (.cells l.cells 36)).alloc (.cells zeroLot.cells 36)).alloc (.cells zeroLot.cells 36)) = W0 := ⟨_, rfl⟩
 rw [hW0] at CW
 have k0 := CW.ib
 have c0 := Lib.cell_of_heap k0 0
 have c1 := Lib.cell_of_heap k0 1
 have c2 := Lib.cell_of_heap k0 2
 have c3 := Lib.cell_of_heap k0 3
 have c4 := Lib.cell_of_heap k0 4
 have c5 := Lib.cell_of_heap k0 5
 have c6 := Lib.cell_of_heap k0 6
 simp [Lot.cells] at c0 c1 c2 c3 c4 c5 c6
 have CW0 := Lib.hid CW
 have hkk := fun W (hW : Tabs W) => lCheck_any l hs W hW
 rw [lchk_zero.2 h] at hkk
 have HK := Lib.hid hkk
 clear hkk
 have HC := Lib.hid (fun W => Check_no q W (by omega) hq)
 clear CW k0 hs h ht hq
 unfold Lot.enc Lot.cells at *
 unfold zeroLot at hW0
 dsimp only at hW0
 go_enter Tryz.func21, Tryz.ntmps21
 go_wp2_with fail
 try rw [hW0]
 refine (HK.out W0 (HT.out.below CW0.out.be)).mono ?_
 rintro e w1 ⟨rfl, b1⟩
 have CW1 := Lib.hid (CW0.out.below b1)
 clear b1 HK hW0 c0 c1 c2 c3 c4 c5 c6
 go_wp2_with fail
 refine (HC.out w1).mono ?_
 rintro e w2 ⟨rfl, b2⟩
 have CW2 := Lib.hid (CW1.out.below b2)
 clear b2 HC CW1
 have ga := CW2.out.za
 have gb := CW2.out.zb
 have m0 := Lib.cell_of_heap ga 0
 have m1 := Lib.cell_of_heap ga 1
 have m2 := Lib.cell_of_heap ga 2
 have m3 := Lib.cell_of_heap ga 3
 have m4 := Lib.cell_of_heap ga 4
 have m5 := Lib.cell_of_heap ga 5
 have m6 := Lib.cell_of_heap ga 6
 simp [Lot.cells, zeroLot] at m0 m1 m2 m3 m4 m5 m6
 have f0 := Lib.frozen_of_heap ga 0
 have f1 := Lib.frozen_of_heap ga 1
 have f2 := Lib.frozen_of_heap ga 2
 have f3 := Lib.frozen_of_heap ga 3
 have f4 := Lib.frozen_of_heap ga 4
 have f5 := Lib.frozen_of_heap ga 5
 have f6 := Lib.frozen_of_heap ga 6
 have n0 := Lib.cell_of_heap gb 0
 have n1 := Lib.cell_of_heap gb 1
 have n2 := Lib.cell_of_heap gb 2
 have n3 := Lib.cell_of_heap gb 3
 have n4 := Lib.cell_of_heap gb 4
 have n5 := Lib.cell_of_heap gb 5
 have n6 := Lib.cell_of_heap gb 6
 simp [Lot.cells, zeroLot] at n0 n1 n2 n3 n4 n5 n6
 have g0 := Lib.frozen_of_heap gb 0
 have g1 := Lib.frozen_of_heap gb 1
 have g2 := Lib.frozen_of_heap gb 2
 have g3 := Lib.frozen_of_heap gb 3
 have g4 := Lib.frozen_of_heap gb 4
 have g5 := Lib.frozen_of_heap gb 5
 have g6 := Lib.frozen_of_heap gb 6
 clear ga gb
 have hne1 : w.heap.size + 1 ≠ w.heap.size + 2 := by omega
 have hne2 : w.heap.size + 2 ≠ w.heap.size + 1 := by omega
 go_wp2_with fail
 clear m0 m1 m2 m3 m4 m5 m6 n0 n1 n2 n3 n4 n5 n6
 have hA : LotBox ((((((((((((((w2.setCell ⟨w.heap.size + 1, 0, none⟩ (.string ⟨#[]⟩)).setCell ⟨w.heap.size + 1, 1, none⟩ (.string ⟨#[]⟩)).setCell ⟨w.heap.size + 1, 2, none⟩ (.int .i64 0)).setCell ⟨w.heap.size + 1, 3, none⟩ (.int .i64 0)).setCell ⟨w.heap.size + 1, 4, none⟩ (.string ⟨#[]⟩)).setCell ⟨w.heap.size + 1, 5, none⟩ (.string ⟨#[]⟩)).setCell ⟨w.heap.size + 1, 6, none⟩ (.string ⟨#[]⟩)).setCell ⟨w.heap.size + 2, 0, none⟩ (.string ⟨#[]⟩)).setCell ⟨w.heap.size + 2, 1, none⟩ (.string ⟨#[]⟩)).setCell ⟨w.heap.size + 2, 2, none⟩ (.int .i64 0)).setCell ⟨w.heap.size + 2, 3, none⟩ (.int .i64 0)).setCell ⟨w.heap.size + 2, 4, none⟩ (.string ⟨#[]⟩)).setCell ⟨w.heap.size + 2, 5, none⟩ (.string ⟨#[]⟩)).setCell ⟨w.heap.size + 2, 6, none⟩ (.string ⟨#[]⟩)) (w.heap.size + 1) zeroLot := (lfar7 (by omega) _ _ _ _ _ _ _).trans (lset7 CW2.out.za _ _ _ _ _ _ _)
 have hB : LotBox ((((((((((((((w2.setCell ⟨w.heap.size + 1, 0, none⟩ (.string ⟨#[]⟩)).setCell ⟨w.heap.size + 1, 1, none⟩ (.string ⟨#[]⟩)).setCell ⟨w.heap.size + 1, 2, none⟩ (.int .i64 0)).setCell ⟨w.heap.size + 1, 3, none⟩ (.int .i64 0)).setCell ⟨w.heap.size + 1, 4, none⟩ (.string ⟨#[]⟩)).setCell ⟨w.heap.size + 1, 5, none⟩ (.string ⟨#[]⟩)).setCell ⟨w.heap.size + 1, 6, none⟩ (.string ⟨#[]⟩)).setCell ⟨w.heap.size + 2, 0, none⟩ (.string ⟨#[]⟩)).setCell ⟨w.heap.size + 2, 1, none⟩ (.string ⟨#[]⟩)).setCell ⟨w.heap.size + 2, 2, none⟩ (.int .i64 0)).setCell ⟨w.heap.size + 2, 3, none⟩ (.int .i64 0)).setCell ⟨w.heap.size + 2, 4, none⟩ (.string ⟨#[]⟩)).setCell ⟨w.heap.size + 2, 5, none⟩ (.string ⟨#[]⟩)).setCell ⟨w.heap.size + 2, 6, none⟩ (.string ⟨#[]⟩)) (w.heap.size + 2) zeroLot := lset7 (w := (((((((w2.setCell ⟨w.heap.size + 1, 0, none⟩ (.string ⟨#[]⟩)).setCell ⟨w.heap.size + 1, 1, none⟩ (.string ⟨#[]⟩)).setCell ⟨w.heap.size + 1, 2, none⟩ (.int .i64 0)).setCell ⟨w.heap.size + 1, 3, none⟩ (.int .i64 0)).setCell ⟨w.heap.size + 1, 4, none⟩ (.string ⟨#[]⟩)).setCell ⟨w.heap.size + 1, 5, none⟩ (.string ⟨#[]⟩)).setCell ⟨w.heap.size + 1, 6, none⟩ (.string ⟨#[]⟩))) ((lfar7 (by omega) _ _ _ _ _ _ _).trans CW2.out.zb) _ _ _ _ _ _ _
 have hE : Below w.heap.size w ((((((((((((((w2.setCell ⟨w.heap.size + 1, 0, none⟩ (.string ⟨#[]⟩)).setCell ⟨w.heap.size + 1, 1, none⟩ (.string ⟨#[]⟩)).setCell ⟨w.heap.size + 1, 2, none⟩ (.int .i64 0)).setCell ⟨w.heap.size + 1, 3, none⟩ (.int .i64 0)).setCell ⟨w.heap.size + 1, 4, none⟩ (.string ⟨#[]⟩)).setCell ⟨w.heap.size + 1, 5, none⟩ (.string ⟨#[]⟩)).setCell ⟨w.heap.size + 1, 6, none⟩ (.string ⟨#[]⟩)).setCell ⟨w.heap.size + 2, 0, none⟩ (.string ⟨#[]⟩)).setCell ⟨w.heap.size + 2, 1, none⟩ (.string ⟨#[]⟩)).setCell ⟨w.heap.size + 2, 2, none⟩ (.int .i64 0)).setCell ⟨w.heap.size + 2, 3, none⟩ (.int .i64 0)).setCell ⟨w.heap.size + 2, 4, none⟩ (.string ⟨#[]⟩)).setCell ⟨w.heap.size + 2, 5, none⟩ (.string ⟨#[]⟩)).setCell ⟨w.heap.size + 2, 6, none⟩ (.string ⟨#[]⟩)) := lbelow7 (by omega) (lbelow7 (by omega) CW2.out.be _ _ _ _ _ _ _) _ _ _ _ _ _ _
 generalize ((((((((((((((w2.setCell ⟨w.heap.size + 1, 0, none⟩ (.string ⟨#[]⟩)).setCell ⟨w.heap.size + 1, 1, none⟩ (.string ⟨#[]⟩)).setCell ⟨w.heap.size + 1, 2, none⟩ (.int .i64 0)).setCell ⟨w.heap.size + 1, 3, none⟩ (.int .i64 0)).setCell ⟨w.heap.size + 1, 4, none⟩ (.string ⟨#[]⟩)).setCell ⟨w.heap.size + 1, 5, none⟩ (.string ⟨#[]⟩)).setCell ⟨w.heap.size + 1, 6, none⟩ (.string ⟨#[]⟩)).setCell ⟨w.heap.size + 2, 0, none⟩ (.string ⟨#[]⟩)).setCell ⟨w.heap.size + 2, 1, none⟩ (.string ⟨#[]⟩)).setCell ⟨w.heap.size + 2, 2, none⟩ (.int .i64 0)).setCell ⟨w.heap.size + 2, 3, none⟩ (.int .i64 0)).setCell ⟨w.heap.size + 2, 4, none⟩ (.string ⟨#[]⟩)).setCell ⟨w.heap.size + 2, 5, none⟩ (.string ⟨#[]⟩)).setCell ⟨w.heap.size + 2, 6, none⟩ (.string ⟨#[]⟩)) = W9 at hA hB hE ⊢
 have m0 := Lib.cell_of_heap hA 0
 have m1 := Lib.cell_of_heap hA 1
 have m2 := Lib.cell_of_heap hA 2
 have m3 := Lib.cell_of_heap hA 3
 have m4 := Lib.cell_of_heap hA 4
 have m5 := Lib.cell_of_heap hA 5
 have m6 := Lib.cell_of_heap hA 6
 simp [Lot.cells, zeroLot] at m0 m1 m2 m3 m4 m5 m6
 have n0 := Lib.cell_of_heap hB 0
 have n1 := Lib.cell_of_heap hB 1
 have n2 := Lib.cell_of_heap hB 2
 have n3 := Lib.cell_of_heap hB 3
 have n4 := Lib.cell_of_heap hB 4
 have n5 := Lib.cell_of_heap hB 5
 have n6 := Lib.cell_of_heap hB 6
 simp [Lot.cells, zeroLot] at n0 n1 n2 n3 n4 n5 n6
 exact bodyPost_ret (v := .tuple #[.agg #[.string ⟨#[]⟩, .string ⟨#[]⟩, .int .i64 0, .int .i64 0, .string ⟨#[]⟩, .string ⟨#[]⟩, .string ⟨#[]⟩], .agg #[.string ⟨#[]⟩, .string ⟨#[]⟩, .int .i64 0, .int .i64 0, .string ⟨#[]⟩, .string ⟨#[]⟩, .string ⟨#[]⟩], .int .i64 1]) (by simp [results, Tryz.results21, go_sem, m0, m1, m2, m3, m4, m5, m6, n0, n1, n2, n3, n4, n5, n6]) rfl ⟨rfl, hE⟩
set_option maxHeartbeats 8000000 in
set_option maxRecDepth 100000 in
theorem lCut_e3 (l : Lot) (q : ByteArray) (hs : l.sized) (q1 : q.size ≤ 1000) (h : l.ok) (hq : Can q) (hr : vl q ≤ 0) (w : World) (ht : Tabs w) :
 Calls Tryz.prog 21 #[l.enc, .string q] w fun e w' => e = .returned (.tuple #[zeroLot.enc, zeroLot.enc, .int .i64 2]) ∧ Below w.heap.size w w' := by
 have HT := Lib.hid ht
 have CW := CutW.start w l
 obtain ⟨W0, hW0⟩ : ∃ W0, (((w.alloc (.cells l.cells 36)).alloc (.cells zeroLot.cells 36)).alloc (.cells zeroLot.cells 36)) = W0 := ⟨_, rfl⟩
 rw [hW0] at CW
 have k0 := CW.ib
 have c0 := Lib.cell_of_heap k0 0
 have c1 := Lib.cell_of_heap k0 1
 have c2 := Lib.cell_of_heap k0 2
 have c3 := Lib.cell_of_heap k0 3
 have c4 := Lib.cell_of_heap k0 4
 have c5 := Lib.cell_of_heap k0 5
 have c6 := Lib.cell_of_heap k0 6
 simp [Lot.cells] at c0 c1 c2 c3 c4 c5 c6
 have CW0 := Lib.hid CW
 have hkk := fun W (hW : Tabs W) => lCheck_any l hs W hW
 rw [lchk_zero.2 h] at hkk
 have HK := Lib.hid hkk
 clear hkk
 have HC := Lib.hid (fun W => Check_yes q W (by omega) hq)
 have HM1 := Lib.hid (fun W => Compare_any q ⟨#[]⟩ W (by omega) (by show 0 ≤ _; omega))
 rw [show vl (⟨#[]⟩ : ByteArray) = 0 from by rw [zero_eq, vl_I]] at HM1
 have d1 : decide (cmpI (vl q) 0 ≤ 0) = true := decide_eq_true (by rw [cmpI_le]; omega)
 clear CW k0 hs h ht hq hr
 unfold Lot.enc Lot.cells at *
 unfold zeroLot at hW0
 dsimp only at hW0
 go_enter Tryz.func21, Tryz.ntmps21
 go_wp2_with fail
 try rw [hW0]
 refine (HK.out W0 (HT.out.below CW0.out.be)).mono ?_
 rintro e w1 ⟨rfl, b1⟩
 have CW1 := Lib.hid (CW0.out.below b1)
 clear b1 HK hW0 c0 c1 c2 c3 c4 c5 c6
 go_wp2_with fail
 refine (HC.out w1).mono ?_
 rintro e w2 ⟨rfl, b2⟩
 have CW2 := Lib.hid (CW1.out.below b2)
 clear b2 HC CW1
 go_wp2_with fail
 refine (HM1.out w2).mono ?_
 rintro e w3 ⟨rfl, b3⟩
 have CW3 := Lib.hid (CW2.out.below b3)
 clear b3 HM1 CW2
 have ga := CW3.out.za
 have gb := CW3.out.zb
 have m0 := Lib.cell_of_heap ga 0
 have m1 := Lib.cell_of_heap ga 1
 have m2 := Lib.cell_of_heap ga 2
 have m3 := Lib.cell_of_heap ga 3
 have m4 := Lib.cell_of_heap ga 4
 have m5 := Lib.cell_of_heap ga 5
 have m6 := Lib.cell_of_heap ga 6
 simp [Lot.cells, zeroLot] at m0 m1 m2 m3 m4 m5 m6
 have f0 := Lib.frozen_of_heap ga 0
 have f1 := Lib.frozen_of_heap ga 1
 have f2 := Lib.frozen_of_heap ga 2
 have f3 := Lib.frozen_of_heap ga 3
 have f4 := Lib.frozen_of_heap ga 4
 have f5 := Lib.frozen_of_heap ga 5
 have f6 := Lib.frozen_of_heap ga 6
 have n0 := Lib.cell_of_heap gb 0
 have n1 := Lib.cell_of_heap gb 1
 have n2 := Lib.cell_of_heap gb 2
 have n3 := Lib.cell_of_heap gb 3
 have n4 := Lib.cell_of_heap gb 4
 have n5 := Lib.cell_of_heap gb 5
 have n6 := Lib.cell_of_heap gb 6
 simp [Lot.cells, zeroLot] at n0 n1 n2 n3 n4 n5 n6
 have g0 := Lib.frozen_of_heap gb 0
 have g1 := Lib.frozen_of_heap gb 1
 have g2 := Lib.frozen_of_heap gb 2
 have g3 := Lib.frozen_of_heap gb 3
 have g4 := Lib.frozen_of_heap gb 4
 have g5 := Lib.frozen_of_heap gb 5
 have g6 := Lib.frozen_of_heap gb 6
 clear ga gb
 have hne1 : w.heap.size + 1 ≠ w.heap.size + 2 := by omega
 have hne2 : w.heap.size + 2 ≠ w.heap.size + 1 := by omega
 go_wp2_with fail
 clear m0 m1 m2 m3 m4 m5 m6 n0 n1 n2 n3 n4 n5 n6
 have hA : LotBox ((((((((((((((w3.setCell ⟨w.heap.size + 1, 0, none⟩ (.string ⟨#[]⟩)).setCell ⟨w.heap.size + 1, 1, none⟩ (.string ⟨#[]⟩)).setCell ⟨w.heap.size + 1, 2, none⟩ (.int .i64 0)).setCell ⟨w.heap.size + 1, 3, none⟩ (.int .i64 0)).setCell ⟨w.heap.size + 1, 4, none⟩ (.string ⟨#[]⟩)).setCell ⟨w.heap.size + 1, 5, none⟩ (.string ⟨#[]⟩)).setCell ⟨w.heap.size + 1, 6, none⟩ (.string ⟨#[]⟩)).setCell ⟨w.heap.size + 2, 0, none⟩ (.string ⟨#[]⟩)).setCell ⟨w.heap.size + 2, 1, none⟩ (.string ⟨#[]⟩)).setCell ⟨w.heap.size + 2, 2, none⟩ (.int .i64 0)).setCell ⟨w.heap.size + 2, 3, none⟩ (.int .i64 0)).setCell ⟨w.heap.size + 2, 4, none⟩ (.string ⟨#[]⟩)).setCell ⟨w.heap.size + 2, 5, none⟩ (.string ⟨#[]⟩)).setCell ⟨w.heap.size + 2, 6, none⟩ (.string ⟨#[]⟩)) (w.heap.size + 1) zeroLot := (lfar7 (by omega) _ _ _ _ _ _ _).trans (lset7 CW3.out.za _ _ _ _ _ _ _)
 have hB : LotBox ((((((((((((((w3.setCell ⟨w.heap.size + 1, 0, none⟩ (.string ⟨#[]⟩)).setCell ⟨w.heap.size + 1, 1, none⟩ (.string ⟨#[]⟩)).setCell ⟨w.heap.size + 1, 2, none⟩ (.int .i64 0)).setCell ⟨w.heap.size + 1, 3, none⟩ (.int .i64 0)).setCell ⟨w.heap.size + 1, 4, none⟩ (.string ⟨#[]⟩)).setCell ⟨w.heap.size + 1, 5, none⟩ (.string ⟨#[]⟩)).setCell ⟨w.heap.size + 1, 6, none⟩ (.string ⟨#[]⟩)).setCell ⟨w.heap.size + 2, 0, none⟩ (.string ⟨#[]⟩)).setCell ⟨w.heap.size + 2, 1, none⟩ (.string ⟨#[]⟩)).setCell ⟨w.heap.size + 2, 2, none⟩ (.int .i64 0)).setCell ⟨w.heap.size + 2, 3, none⟩ (.int .i64 0)).setCell ⟨w.heap.size + 2, 4, none⟩ (.string ⟨#[]⟩)).setCell ⟨w.heap.size + 2, 5, none⟩ (.string ⟨#[]⟩)).setCell ⟨w.heap.size + 2, 6, none⟩ (.string ⟨#[]⟩)) (w.heap.size + 2) zeroLot := lset7 (w := (((((((w3.setCell ⟨w.heap.size + 1, 0, none⟩ (.string ⟨#[]⟩)).setCell ⟨w.heap.size + 1, 1, none⟩ (.string ⟨#[]⟩)).setCell ⟨w.heap.size + 1, 2, none⟩ (.int .i64 0)).setCell ⟨w.heap.size + 1, 3, none⟩ (.int .i64 0)).setCell ⟨w.heap.size + 1, 4, none⟩ (.string ⟨#[]⟩)).setCell ⟨w.heap.size + 1, 5, none⟩ (.string ⟨#[]⟩)).setCell ⟨w.heap.size + 1, 6, none⟩ (.string ⟨#[]⟩))) ((lfar7 (by omega) _ _ _ _ _ _ _).trans CW3.out.zb) _ _ _ _ _ _ _
 have hE : Below w.heap.size w ((((((((((((((w3.setCell ⟨w.heap.size + 1, 0, none⟩ (.string ⟨#[]⟩)).setCell ⟨w.heap.size + 1, 1, none⟩ (.string ⟨#[]⟩)).setCell ⟨w.heap.size + 1, 2, none⟩ (.int .i64 0)).setCell ⟨w.heap.size + 1, 3, none⟩ (.int .i64 0)).setCell ⟨w.heap.size + 1, 4, none⟩ (.string ⟨#[]⟩)).setCell ⟨w.heap.size + 1, 5, none⟩ (.string ⟨#[]⟩)).setCell ⟨w.heap.size + 1, 6, none⟩ (.string ⟨#[]⟩)).setCell ⟨w.heap.size + 2, 0, none⟩ (.string ⟨#[]⟩)).setCell ⟨w.heap.size + 2, 1, none⟩ (.string ⟨#[]⟩)).setCell ⟨w.heap.size + 2, 2, none⟩ (.int .i64 0)).setCell ⟨w.heap.size + 2, 3, none⟩ (.int .i64 0)).setCell ⟨w.heap.size + 2, 4, none⟩ (.string ⟨#[]⟩)).setCell ⟨w.heap.size + 2, 5, none⟩ (.string ⟨#[]⟩)).setCell ⟨w.heap.size + 2, 6, none⟩ (.string ⟨#[]⟩)) := lbelow7 (by omega) (lbelow7 (by omega) CW3.out.be _ _ _ _ _ _ _) _ _ _ _ _ _ _
 generalize ((((((((((((((w3.setCell ⟨w.heap.size + 1, 0, none⟩ (.string ⟨#[]⟩)).setCell ⟨w.heap.size + 1, 1, none⟩ (.string ⟨#[]⟩)).setCell ⟨w.heap.size + 1, 2, none⟩ (.int .i64 0)).setCell ⟨w.heap.size + 1, 3, none⟩ (.int .i64 0)).setCell ⟨w.heap.size + 1, 4, none⟩ (.string ⟨#[]⟩)).setCell ⟨w.heap.size + 1, 5, none⟩ (.string ⟨#[]⟩)).setCell ⟨w.heap.size + 1, 6, none⟩ (.string ⟨#[]⟩)).setCell ⟨w.heap.size + 2, 0, none⟩ (.string ⟨#[]⟩)).setCell ⟨w.heap.size + 2, 1, none⟩ (.string ⟨#[]⟩)).setCell ⟨w.heap.size + 2, 2, none⟩ (.int .i64 0)).setCell ⟨w.heap.size + 2, 3, none⟩ (.int .i64 0)).setCell ⟨w.heap.size + 2, 4, none⟩ (.string ⟨#[]⟩)).setCell ⟨w.heap.size + 2, 5, none⟩ (.string ⟨#[]⟩)).setCell ⟨w.heap.size + 2, 6, none⟩ (.string ⟨#[]⟩)) = W9 at hA hB hE ⊢
 have m0 := Lib.cell_of_heap hA 0
 have m1 := Lib.cell_of_heap hA 1
 have m2 := Lib.cell_of_heap hA 2
 have m3 := Lib.cell_of_heap hA 3
 have m4 := Lib.cell_of_heap hA 4
 have m5 := Lib.cell_of_heap hA 5
 have m6 := Lib.cell_of_heap hA 6
 simp [Lot.cells, zeroLot] at m0 m1 m2 m3 m4 m5 m6
 have n0 := Lib.cell_of_heap hB 0
 have n1 := Lib.cell_of_heap hB 1
 have n2 := Lib.cell_of_heap hB 2
 have n3 := Lib.cell_of_heap hB 3
 have n4 := Lib.cell_of_heap hB 4
 have n5 := Lib.cell_of_heap hB 5
 have n6 := Lib.cell_of_heap hB 6
 simp [Lot.cells, zeroLot] at n0 n1 n2 n3 n4 n5 n6
 exact bodyPost_ret (v := .tuple #[.agg #[.string ⟨#[]⟩, .string ⟨#[]⟩, .int .i64 0, .int .i64 0, .string ⟨#[]⟩, .string ⟨#[]⟩, .string ⟨#[]⟩], .agg #[.string ⟨#[]⟩, .string ⟨#[]⟩, .int .i64 0, .int .i64 0, .string ⟨#[]⟩, .string ⟨#[]⟩, .string ⟨#[]⟩], .int .i64 2]) (by simp [results, Tryz.results21, go_sem, m0, m1, m2, m3, m4, m5, m6, n0, n1, n2, n3, n4, n5, n6]) rfl ⟨rfl, hE⟩
set_option maxHeartbeats 8000000 in
set_option maxRecDepth 100000 in
theorem lCut_e4 (l : Lot) (q : ByteArray) (hs : l.sized) (q1 : q.size ≤ 1000) (h : l.ok) (hq : Can q) (hp : 0 < vl q) (hr : vl l.qty ≤ vl q) (w : World) (ht : Tabs w) :
 Calls Tryz.prog 21 #[l.enc, .string q] w fun e w' => e = .returned (.tuple #[zeroLot.enc, zeroLot.enc, .int .i64 2]) ∧ Below w.heap.size w w' := by
 have hzq : l.qty.size ≤ 1000 := by obtain ⟨z1, z2, z3, z4, z5⟩ := id hs; omega
 have HT := Lib.hid ht
 have CW := CutW.start w l
 obtain ⟨W0, hW0⟩ : ∃ W0, (((w.alloc (.cells l.cells 36)).alloc (.cells zeroLot.cells 36)).alloc (.cells zeroLot.cells 36)) = W0 := ⟨_, rfl⟩
 rw [hW0] at CW
 have k0 := CW.ib
 have c0 := Lib.cell_of_heap k0 0
 have c1 := Lib.cell_of_heap k0 1
 have c2 := Lib.cell_of_heap k0 2
 have c3 := Lib.cell_of_heap k0 3
 have c4 := Lib.cell_of_heap k0 4
 have c5 := Lib.cell_of_heap k0 5
 have c6 := Lib.cell_of_heap k0 6
 simp [Lot.cells] at c0 c1 c2 c3 c4 c5 c6
 have CW0 := Lib.hid CW
 have hkk := fun W (hW : Tabs W) => lCheck_any l hs W hW
 rw [lchk_zero.2 h] at hkk
 have HK := Lib.hid hkk
 clear hkk
 have HC := Lib.hid (fun W => Check_yes q W (by omega) hq)
 have HM1 := Lib.hid (fun W => Compare_any q ⟨#[]⟩ W (by omega) (by show 0 ≤ _; omega))
 rw [show vl (⟨#[]⟩ : ByteArray) = 0 from by rw [zero_eq, vl_I]] at HM1
 have HM2 := Lib.hid (fun W => Compare_any q l.qty W (by omega) (by omega))
 have d1 : decide (cmpI (vl q) 0 ≤ 0) = false := decide_eq_false (by rw [cmpI_le]; omega)
 have d2 : decide (0 ≤ cmpI (vl q) (vl l.qty)) = true := decide_eq_true (by rw [cmpI_ge]; omega)
 have d3 : decide (cmpI (vl q) (vl l.qty) ≥ 0) = true := d2
 clear CW k0 hs h ht hq hr hp hzq
 unfold Lot.enc Lot.cells at *
 unfold zeroLot at hW0
 dsimp only at hW0
 go_enter Tryz.func21, Tryz.ntmps21
 go_wp2_with fail
 try rw [hW0]
 refine (HK.out W0 (HT.out.below CW0.out.be)).mono ?_
 rintro e w1 ⟨rfl, b1⟩
 have CW1 := Lib.hid (CW0.out.below b1)
 clear b1 HK hW0 c0 c1 c2 c3 c4 c5 c6
 go_wp2_with fail
 refine (HC.out w1).mono ?_
 rintro e w2 ⟨rfl, b2⟩
 have CW2 := Lib.hid (CW1.out.below b2)
 clear b2 HC CW1
 go_wp2_with fail
 refine (HM1.out w2).mono ?_
 rintro e w3 ⟨rfl, b3⟩
 have CW3 := Lib.hid (CW2.out.below b3)
 have k3 := CW3.out.ib
 have c0 := Lib.cell_of_heap k3 0
 have c1 := Lib.cell_of_heap k3 1
 have c2 := Lib.cell_of_heap k3 2
 have c3 := Lib.cell_of_heap k3 3
 have c4 := Lib.cell_of_heap k3 4
 have c5 := Lib.cell_of_heap k3 5
 have c6 := Lib.cell_of_heap k3 6
 simp [Lot.cells] at c0 c1 c2 c3 c4 c5 c6
 clear b3 HM1 CW2 k3
 go_wp2_with fail
 refine (HM2.out w3).mono ?_
 rintro e w4 ⟨rfl, b4⟩
 have CW4 := Lib.hid (CW3.out.below b4)
 clear b4 HM2 CW3 c0 c1 c2 c3 c4 c5 c6
 have ga := CW4.out.za
 have gb := CW4.out.zb
 have m0 := Lib.cell_of_heap ga 0
 have m1 := Lib.cell_of_heap ga 1
 have m2 := Lib.cell_of_heap ga 2
 have m3 := Lib.cell_of_heap ga 3
 have m4 := Lib.cell_of_heap ga 4
 have m5 := Lib.cell_of_heap ga 5
 have m6 := Lib.cell_of_heap ga 6
 simp [Lot.cells, zeroLot] at m0 m1 m2 m3 m4 m5 m6
 have f0 := Lib.frozen_of_heap ga 0
 have f1 := Lib.frozen_of_heap ga 1
 have f2 := Lib.frozen_of_heap ga 2
 have f3 := Lib.frozen_of_heap ga 3
 have f4 := Lib.frozen_of_heap ga 4
 have f5 := Lib.frozen_of_heap ga 5
 have f6 := Lib.frozen_of_heap ga 6
 have n0 := Lib.cell_of_heap gb 0
 have n1 := Lib.cell_of_heap gb 1
 have n2 := Lib.cell_of_heap gb 2
 have n3 := Lib.cell_of_heap gb 3
 have n4 := Lib.cell_of_heap gb 4
 have n5 := Lib.cell_of_heap gb 5
 have n6 := Lib.cell_of_heap gb 6
 simp [Lot.cells, zeroLot] at n0 n1 n2 n3 n4 n5 n6
 have g0 := Lib.frozen_of_heap gb 0
 have g1 := Lib.frozen_of_heap gb 1
 have g2 := Lib.frozen_of_heap gb 2
 have g3 := Lib.frozen_of_heap gb 3
 have g4 := Lib.frozen_of_heap gb 4
 have g5 := Lib.frozen_of_heap gb 5
 have g6 := Lib.frozen_of_heap gb 6
 clear ga gb
 have hne1 : w.heap.size + 1 ≠ w.heap.size + 2 := by omega
 have hne2 : w.heap.size + 2 ≠ w.heap.size + 1 := by omega
 go_wp2_with fail
 clear m0 m1 m2 m3 m4 m5 m6 n0 n1 n2 n3 n4 n5 n6
 have hA : LotBox ((((((((((((((w4.setCell ⟨w.heap.size + 1, 0, none⟩ (.string ⟨#[]⟩)).setCell ⟨w.heap.size + 1, 1, none⟩ (.string ⟨#[]⟩)).setCell ⟨w.heap.size + 1, 2, none⟩ (.int .i64 0)).setCell ⟨w.heap.size + 1, 3, none⟩ (.int .i64 0)).setCell ⟨w.heap.size + 1, 4, none⟩ (.string ⟨#[]⟩)).setCell ⟨w.heap.size + 1, 5, none⟩ (.string ⟨#[]⟩)).setCell ⟨w.heap.size + 1, 6, none⟩ (.string ⟨#[]⟩)).setCell ⟨w.heap.size + 2, 0, none⟩ (.string ⟨#[]⟩)).setCell ⟨w.heap.size + 2, 1, none⟩ (.string ⟨#[]⟩)).setCell ⟨w.heap.size + 2, 2, none⟩ (.int .i64 0)).setCell ⟨w.heap.size + 2, 3, none⟩ (.int .i64 0)).setCell ⟨w.heap.size + 2, 4, none⟩ (.string ⟨#[]⟩)).setCell ⟨w.heap.size + 2, 5, none⟩ (.string ⟨#[]⟩)).setCell ⟨w.heap.size + 2, 6, none⟩ (.string ⟨#[]⟩)) (w.heap.size + 1) zeroLot := (lfar7 (by omega) _ _ _ _ _ _ _).trans (lset7 CW4.out.za _ _ _ _ _ _ _)
 have hB : LotBox ((((((((((((((w4.setCell ⟨w.heap.size + 1, 0, none⟩ (.string ⟨#[]⟩)).setCell ⟨w.heap.size + 1, 1, none⟩ (.string ⟨#[]⟩)).setCell ⟨w.heap.size + 1, 2, none⟩ (.int .i64 0)).setCell ⟨w.heap.size + 1, 3, none⟩ (.int .i64 0)).setCell ⟨w.heap.size + 1, 4, none⟩ (.string ⟨#[]⟩)).setCell ⟨w.heap.size + 1, 5, none⟩ (.string ⟨#[]⟩)).setCell ⟨w.heap.size + 1, 6, none⟩ (.string ⟨#[]⟩)).setCell ⟨w.heap.size + 2, 0, none⟩ (.string ⟨#[]⟩)).setCell ⟨w.heap.size + 2, 1, none⟩ (.string ⟨#[]⟩)).setCell ⟨w.heap.size + 2, 2, none⟩ (.int .i64 0)).setCell ⟨w.heap.size + 2, 3, none⟩ (.int .i64 0)).setCell ⟨w.heap.size + 2, 4, none⟩ (.string ⟨#[]⟩)).setCell ⟨w.heap.size + 2, 5, none⟩ (.string ⟨#[]⟩)).setCell ⟨w.heap.size + 2, 6, none⟩ (.string ⟨#[]⟩)) (w.heap.size + 2) zeroLot := lset7 (w := (((((((w4.setCell ⟨w.heap.size + 1, 0, none⟩ (.string ⟨#[]⟩)).setCell ⟨w.heap.size + 1, 1, none⟩ (.string ⟨#[]⟩)).setCell ⟨w.heap.size + 1, 2, none⟩ (.int .i64 0)).setCell ⟨w.heap.size + 1, 3, none⟩ (.int .i64 0)).setCell ⟨w.heap.size + 1, 4, none⟩ (.string ⟨#[]⟩)).setCell ⟨w.heap.size + 1, 5, none⟩ (.string ⟨#[]⟩)).setCell ⟨w.heap.size + 1, 6, none⟩ (.string ⟨#[]⟩))) ((lfar7 (by omega) _ _ _ _ _ _ _).trans CW4.out.zb) _ _ _ _ _ _ _
 have hE : Below w.heap.size w ((((((((((((((w4.setCell ⟨w.heap.size + 1, 0, none⟩ (.string ⟨#[]⟩)).setCell ⟨w.heap.size + 1, 1, none⟩ (.string ⟨#[]⟩)).setCell ⟨w.heap.size + 1, 2, none⟩ (.int .i64 0)).setCell ⟨w.heap.size + 1, 3, none⟩ (.int .i64 0)).setCell ⟨w.heap.size + 1, 4, none⟩ (.string ⟨#[]⟩)).setCell ⟨w.heap.size + 1, 5, none⟩ (.string ⟨#[]⟩)).setCell ⟨w.heap.size + 1, 6, none⟩ (.string ⟨#[]⟩)).setCell ⟨w.heap.size + 2, 0, none⟩ (.string ⟨#[]⟩)).setCell ⟨w.heap.size + 2, 1, none⟩ (.string ⟨#[]⟩)).setCell ⟨w.heap.size + 2, 2, none⟩ (.int .i64 0)).setCell ⟨w.heap.size + 2, 3, none⟩ (.int .i64 0)).setCell ⟨w.heap.size + 2, 4, none⟩ (.string ⟨#[]⟩)).setCell ⟨w.heap.size + 2, 5, none⟩ (.string ⟨#[]⟩)).setCell ⟨w.heap.size + 2, 6, none⟩ (.string ⟨#[]⟩)) := lbelow7 (by omega) (lbelow7 (by omega) CW4.out.be _ _ _ _ _ _ _) _ _ _ _ _ _ _
 generalize ((((((((((((((w4.setCell ⟨w.heap.size + 1, 0, none⟩ (.string ⟨#[]⟩)).setCell ⟨w.heap.size + 1, 1, none⟩ (.string ⟨#[]⟩)).setCell ⟨w.heap.size + 1, 2, none⟩ (.int .i64 0)).setCell ⟨w.heap.size + 1, 3, none⟩ (.int .i64 0)).setCell ⟨w.heap.size + 1, 4, none⟩ (.string ⟨#[]⟩)).setCell ⟨w.heap.size + 1, 5, none⟩ (.string ⟨#[]⟩)).setCell ⟨w.heap.size + 1, 6, none⟩ (.string ⟨#[]⟩)).setCell ⟨w.heap.size + 2, 0, none⟩ (.string ⟨#[]⟩)).setCell ⟨w.heap.size + 2, 1, none⟩ (.string ⟨#[]⟩)).setCell ⟨w.heap.size + 2, 2, none⟩ (.int .i64 0)).setCell ⟨w.heap.size + 2, 3, none⟩ (.int .i64 0)).setCell ⟨w.heap.size + 2, 4, none⟩ (.string ⟨#[]⟩)).setCell ⟨w.heap.size + 2, 5, none⟩ (.string ⟨#[]⟩)).setCell ⟨w.heap.size + 2, 6, none⟩ (.string ⟨#[]⟩)) = W9 at hA hB hE ⊢
 have m0 := Lib.cell_of_heap hA 0
 have m1 := Lib.cell_of_heap hA 1
 have m2 := Lib.cell_of_heap hA 2
 have m3 := Lib.cell_of_heap hA 3
 have m4 := Lib.cell_of_heap hA 4
 have m5 := Lib.cell_of_heap hA 5
 have m6 := Lib.cell_of_heap hA 6
 simp [Lot.cells, zeroLot] at m0 m1 m2 m3 m4 m5 m6
 have n0 := Lib.cell_of_heap hB 0
 have n1 := Lib.cell_of_heap hB 1
 have n2 := Lib.cell_of_heap hB 2
 have n3 := Lib.cell_of_heap hB 3
 have n4 := Lib.cell_of_heap hB 4
 have n5 := Lib.cell_of_heap hB 5
 have n6 := Lib.cell_of_heap hB 6
 simp [Lot.cells, zeroLot] at n0 n1 n2 n3 n4 n5 n6
 exact bodyPost_ret (v := .tuple #[.agg #[.string ⟨#[]⟩, .string ⟨#[]⟩, .int .i64 0, .int .i64 0, .string ⟨#[]⟩, .string ⟨#[]⟩, .string ⟨#[]⟩], .agg #[.string ⟨#[]⟩, .string ⟨#[]⟩, .int .i64 0, .int .i64 0, .string ⟨#[]⟩, .string ⟨#[]⟩, .string ⟨#[]⟩], .int .i64 2]) (by simp [results, Tryz.results21, go_sem, m0, m1, m2, m3, m4, m5, m6, n0, n1, n2, n3, n4, n5, n6]) rfl ⟨rfl, hE⟩
set_option maxHeartbeats 8000000 in
set_option maxRecDepth 100000 in
theorem rCut19_e1 (l : Lot) (q : ByteArray) (hs : l.tiny) (q1 : q.size ≤ 13) (h : lchk l ≠ 0) (w : World) (ht : Tabs w) :
 Calls Tryz.prog 22 #[l.enc, .string q] w fun e w' => e = .returned (.tuple #[zeroLot.enc, zeroLot.enc, .int .i64 1]) ∧ Below w.heap.size w w' := by
 have HT := Lib.hid ht
 have CW := CutW.start w l
 obtain ⟨W0, hW0⟩ : ∃ W0, (((w.alloc (.cells l.cells 36)).alloc (.cells zeroLot.cells 36)).alloc (.cells zeroLot.cells 36)) = W0 := ⟨_, rfl⟩
 rw [hW0] at CW
 have k0 := CW.ib
 have c0 := Lib.cell_of_heap k0 0
 have c1 := Lib.cell_of_heap k0 1
 have c2 := Lib.cell_of_heap k0 2
 have c3 := Lib.cell_of_heap k0 3
 have c4 := Lib.cell_of_heap k0 4
 have c5 := Lib.cell_of_heap k0 5
 have c6 := Lib.cell_of_heap k0 6
 simp [Lot.cells] at c0 c1 c2 c3 c4 c5 c6
 have CW0 := Lib.hid CW
 have HK := Lib.hid (fun W (hW : Tabs W) => rCheck19_ex l hs W)
 have t1 : (lchk l == 0) = false := beq_eq_false_iff_ne.2 h
 have t1' : (lchk l != 0) = true := by rw [bne, t1]; rfl
 clear CW k0 hs h ht
 unfold Lot.enc Lot.cells at *
 unfold zeroLot at hW0
 dsimp only at hW0
 go_enter Tryz.func22, Tryz.ntmps22
 go_wp2_with fail
 try rw [hW0]
 refine (HK.out W0 (HT.out.below CW0.out.be)).mono ?_
 rintro e w1 ⟨rfl, b1⟩
 have CW1 := Lib.hid (CW0.out.below b1)
 clear b1 HK hW0 c0 c1 c2 c3 c4 c5 c6
 have ga := CW1.out.za
 have gb := CW1.out.zb
 have m0 := Lib.cell_of_heap ga 0
 have m1 := Lib.cell_of_heap ga 1
 have m2 := Lib.cell_of_heap ga 2
 have m3 := Lib.cell_of_heap ga 3
 have m4 := Lib.cell_of_heap ga 4
 have m5 := Lib.cell_of_heap ga 5
 have m6 := Lib.cell_of_heap ga 6
 simp [Lot.cells, zeroLot] at m0 m1 m2 m3 m4 m5 m6
 have f0 := Lib.frozen_of_heap ga 0
 have f1 := Lib.frozen_of_heap ga 1
 have f2 := Lib.frozen_of_heap ga 2
 have f3 := Lib.frozen_of_heap ga 3
 have f4 := Lib.frozen_of_heap ga 4
 have f5 := Lib.frozen_of_heap ga 5
 have f6 := Lib.frozen_of_heap ga 6
 have n0 := Lib.cell_of_heap gb 0
 have n1 := Lib.cell_of_heap gb 1
 have n2 := Lib.cell_of_heap gb 2
 have n3 := Lib.cell_of_heap gb 3
 have n4 := Lib.cell_of_heap gb 4
 have n5 := Lib.cell_of_heap gb 5
 have n6 := Lib.cell_of_heap gb 6
 simp [Lot.cells, zeroLot] at n0 n1 n2 n3 n4 n5 n6
 have g0 := Lib.frozen_of_heap gb 0
 have g1 := Lib.frozen_of_heap gb 1
 have g2 := Lib.frozen_of_heap gb 2
 have g3 := Lib.frozen_of_heap gb 3
 have g4 := Lib.frozen_of_heap gb 4
 have g5 := Lib.frozen_of_heap gb 5
 have g6 := Lib.frozen_of_heap gb 6
 clear ga gb
 have hne1 : w.heap.size + 1 ≠ w.heap.size + 2 := by omega
 have hne2 : w.heap.size + 2 ≠ w.heap.size + 1 := by omega
 go_wp2_with fail
 clear m0 m1 m2 m3 m4 m5 m6 n0 n1 n2 n3 n4 n5 n6
 have hA : LotBox ((((((((((((((w1.setCell ⟨w.heap.size + 1, 0, none⟩ (.string ⟨#[]⟩)).setCell ⟨w.heap.size + 1, 1, none⟩ (.string ⟨#[]⟩)).setCell ⟨w.heap.size + 1, 2, none⟩ (.int .i64 0)).setCell ⟨w.heap.size + 1, 3, none⟩ (.int .i64 0)).setCell ⟨w.heap.size + 1, 4, none⟩ (.string ⟨#[]⟩)).setCell ⟨w.heap.size + 1, 5, none⟩ (.string ⟨#[]⟩)).setCell ⟨w.heap.size + 1, 6, none⟩ (.string ⟨#[]⟩)).setCell ⟨w.heap.size + 2, 0, none⟩ (.string ⟨#[]⟩)).setCell ⟨w.heap.size + 2, 1, none⟩ (.string ⟨#[]⟩)).setCell ⟨w.heap.size + 2, 2, none⟩ (.int .i64 0)).setCell ⟨w.heap.size + 2, 3, none⟩ (.int .i64 0)).setCell ⟨w.heap.size + 2, 4, none⟩ (.string ⟨#[]⟩)).setCell ⟨w.heap.size + 2, 5, none⟩ (.string ⟨#[]⟩)).setCell ⟨w.heap.size + 2, 6, none⟩ (.string ⟨#[]⟩)) (w.heap.size + 1) zeroLot := (lfar7 (by omega) _ _ _ _ _ _ _).trans (lset7 CW1.out.za _ _ _ _ _ _ _)
 have hB : LotBox ((((((((((((((w1.setCell ⟨w.heap.size + 1, 0, none⟩ (.string ⟨#[]⟩)).setCell ⟨w.heap.size + 1, 1, none⟩ (.string ⟨#[]⟩)).setCell ⟨w.heap.size + 1, 2, none⟩ (.int .i64 0)).setCell ⟨w.heap.size + 1, 3, none⟩ (.int .i64 0)).setCell ⟨w.heap.size + 1, 4, none⟩ (.string ⟨#[]⟩)).setCell ⟨w.heap.size + 1, 5, none⟩ (.string ⟨#[]⟩)).setCell ⟨w.heap.size + 1, 6, none⟩ (.string ⟨#[]⟩)).setCell ⟨w.heap.size + 2, 0, none⟩ (.string ⟨#[]⟩)).setCell ⟨w.heap.size + 2, 1, none⟩ (.string ⟨#[]⟩)).setCell ⟨w.heap.size + 2, 2, none⟩ (.int .i64 0)).setCell ⟨w.heap.size + 2, 3, none⟩ (.int .i64 0)).setCell ⟨w.heap.size + 2, 4, none⟩ (.string ⟨#[]⟩)).setCell ⟨w.heap.size + 2, 5, none⟩ (.string ⟨#[]⟩)).setCell ⟨w.heap.size + 2, 6, none⟩ (.string ⟨#[]⟩)) (w.heap.size + 2) zeroLot := lset7 (w := (((((((w1.setCell ⟨w.heap.size + 1, 0, none⟩ (.string ⟨#[]⟩)).setCell ⟨w.heap.size + 1, 1, none⟩ (.string ⟨#[]⟩)).setCell ⟨w.heap.size + 1, 2, none⟩ (.int .i64 0)).setCell ⟨w.heap.size + 1, 3, none⟩ (.int .i64 0)).setCell ⟨w.heap.size + 1, 4, none⟩ (.string ⟨#[]⟩)).setCell ⟨w.heap.size + 1, 5, none⟩ (.string ⟨#[]⟩)).setCell ⟨w.heap.size + 1, 6, none⟩ (.string ⟨#[]⟩))) ((lfar7 (by omega) _ _ _ _ _ _ _).trans CW1.out.zb) _ _ _ _ _ _ _
 have hE : Below w.heap.size w ((((((((((((((w1.setCell ⟨w.heap.size + 1, 0, none⟩ (.string ⟨#[]⟩)).setCell ⟨w.heap.size + 1, 1, none⟩ (.string ⟨#[]⟩)).setCell ⟨w.heap.size + 1, 2, none⟩ (.int .i64 0)).setCell ⟨w.heap.size + 1, 3, none⟩ (.int .i64 0)).setCell ⟨w.heap.size + 1, 4, none⟩ (.string ⟨#[]⟩)).setCell ⟨w.heap.size + 1, 5, none⟩ (.string ⟨#[]⟩)).setCell ⟨w.heap.size + 1, 6, none⟩ (.string ⟨#[]⟩)).setCell ⟨w.heap.size + 2, 0, none⟩ (.string ⟨#[]⟩)).setCell ⟨w.heap.size + 2, 1, none⟩ (.string ⟨#[]⟩)).setCell ⟨w.heap.size + 2, 2, none⟩ (.int .i64 0)).setCell ⟨w.heap.size + 2, 3, none⟩ (.int .i64 0)).setCell ⟨w.heap.size + 2, 4, none⟩ (.string ⟨#[]⟩)).setCell ⟨w.heap.size + 2, 5, none⟩ (.string ⟨#[]⟩)).setCell ⟨w.heap.size + 2, 6, none⟩ (.string ⟨#[]⟩)) := lbelow7 (by omega) (lbelow7 (by omega) CW1.out.be _ _ _ _ _ _ _) _ _ _ _ _ _ _
 generalize ((((((((((((((w1.setCell ⟨w.heap.size + 1, 0, none⟩ (.string ⟨#[]⟩)).setCell ⟨w.heap.size + 1, 1, none⟩ (.string ⟨#[]⟩)).setCell ⟨w.heap.size + 1, 2, none⟩ (.int .i64 0)).setCell ⟨w.heap.size + 1, 3, none⟩ (.int .i64 0)).setCell ⟨w.heap.size + 1, 4, none⟩ (.string ⟨#[]⟩)).setCell ⟨w.heap.size + 1, 5, none⟩ (.string ⟨#[]⟩)).setCell ⟨w.heap.size + 1, 6, none⟩ (.string ⟨#[]⟩)).setCell ⟨w.heap.size + 2, 0, none⟩ (.string ⟨#[]⟩)).setCell ⟨w.heap.size + 2, 1, none⟩ (.string ⟨#[]⟩)).setCell ⟨w.heap.size + 2, 2, none⟩ (.int .i64 0)).setCell ⟨w.heap.size + 2, 3, none⟩ (.int .i64 0)).setCell ⟨w.heap.size + 2, 4, none⟩ (.string ⟨#[]⟩)).setCell ⟨w.heap.size + 2, 5, none⟩ (.string ⟨#[]⟩)).setCell ⟨w.heap.size + 2, 6, none⟩ (.string ⟨#[]⟩)) = W9 at hA hB hE ⊢
 have m0 := Lib.cell_of_heap hA 0
 have m1 := Lib.cell_of_heap hA 1
 have m2 := Lib.cell_of_heap hA 2
 have m3 := Lib.cell_of_heap hA 3
 have m4 := Lib.cell_of_heap hA 4
 have m5 := Lib.cell_of_heap hA 5
 have m6 := Lib.cell_of_heap hA 6
 simp [Lot.cells, zeroLot] at m0 m1 m2 m3 m4 m5 m6
 have n0 := Lib.cell_of_heap hB 0
 have n1 := Lib.cell_of_heap hB 1
 have n2 := Lib.cell_of_heap hB 2
 have n3 := Lib.cell_of_heap hB 3
 have n4 := Lib.cell_of_heap hB 4
 have n5 := Lib.cell_of_heap hB 5
 have n6 := Lib.cell_of_heap hB 6
 simp [Lot.cells, zeroLot] at n0 n1 n2 n3 n4 n5 n6
 exact bodyPost_ret (v := .tuple #[.agg #[.string ⟨#[]⟩, .string ⟨#[]⟩, .int .i64 0, .int .i64 0, .string ⟨#[]⟩, .string ⟨#[]⟩, .string ⟨#[]⟩], .agg #[.string ⟨#[]⟩, .string ⟨#[]⟩, .int .i64 0, .int .i64 0, .string ⟨#[]⟩, .string ⟨#[]⟩, .string ⟨#[]⟩], .int .i64 1]) (by simp [results, Tryz.results22, go_sem, m0, m1, m2, m3, m4, m5, m6, n0, n1, n2, n3, n4, n5, n6]) rfl ⟨rfl, hE⟩
set_option maxHeartbeats 8000000 in
set_option maxRecDepth 100000 in
theorem rCut19_e2 (l : Lot) (q : ByteArray) (hs : l.tiny) (q1 : q.size ≤ 13) (h : l.ok) (hq : ¬ Can q) (w : World) (ht : Tabs w) :
 Calls Tryz.prog 22 #[l.enc, .string q] w fun e w' => e = .returned (.tuple #[zeroLot.enc, zeroLot.enc, .int .i64 1]) ∧ Below w.heap.size w w' := by
 have HT := Lib.hid ht
 have CW := CutW.start w l
 obtain ⟨W0, hW0⟩ : ∃ W0, (((w.alloc (.cells l.cells 36)).alloc (.cells zeroLot.cells 36)).alloc (.cells zeroLot.cells 36)) = W0 := ⟨_, rfl⟩
 rw [hW0] at CW
 have k0 := CW.ib
 have c0 := Lib.cell_of_heap k0 0
 have c1 := Lib.cell_of_heap k0 1
 have c2 := Lib.cell_of_heap k0 2
 have c3 := Lib.cell_of_heap k0 3
 have c4 := Lib.cell_of_heap k0 4
 have c5 := Lib.cell_of_heap k0 5
 have c6 := Lib.cell_of_heap k0 6
 simp [Lot.cells] at c0 c1 c2 c3 c4 c5 c6
 have CW0 := Lib.hid CW
 have hkk := fun W (hW : Tabs W) => rCheck19_ex l hs W
 rw [lchk_zero.2 h] at hkk
 have HK := Lib.hid hkk
 clear hkk
 have HC := Lib.hid (fun W => eq_below (rCheck_no q (by omega) hq W))
 clear CW k0 hs h ht hq
 unfold Lot.enc Lot.cells at *
 unfold zeroLot at hW0
 dsimp only at hW0
 go_enter Tryz.func22, Tryz.ntmps22
 go_wp2_with fail
 try rw [hW0]
 refine (HK.out W0 (HT.out.below CW0.out.be)).mono ?_
 rintro e w1 ⟨rfl, b1⟩
 have CW1 := Lib.hid (CW0.out.below b1)
 clear b1 HK hW0 c0 c1 c2 c3 c4 c5 c6
 go_wp2_with fail
 refine (HC.out w1).mono ?_
 rintro e w2 ⟨rfl, b2⟩
 have CW2 := Lib.hid (CW1.out.below b2)
 clear b2 HC CW1
 have ga := CW2.out.za
 have gb := CW2.out.zb
 have m0 := Lib.cell_of_heap ga 0
 have m1 := Lib.cell_of_heap ga 1
 have m2 := Lib.cell_of_heap ga 2
 have m3 := Lib.cell_of_heap ga 3
 have m4 := Lib.cell_of_heap ga 4
 have m5 := Lib.cell_of_heap ga 5
 have m6 := Lib.cell_of_heap ga 6
 simp [Lot.cells, zeroLot] at m0 m1 m2 m3 m4 m5 m6
 have f0 := Lib.frozen_of_heap ga 0
 have f1 := Lib.frozen_of_heap ga 1
 have f2 := Lib.frozen_of_heap ga 2
 have f3 := Lib.frozen_of_heap ga 3
 have f4 := Lib.frozen_of_heap ga 4
 have f5 := Lib.frozen_of_heap ga 5
 have f6 := Lib.frozen_of_heap ga 6
 have n0 := Lib.cell_of_heap gb 0
 have n1 := Lib.cell_of_heap gb 1
 have n2 := Lib.cell_of_heap gb 2
 have n3 := Lib.cell_of_heap gb 3
 have n4 := Lib.cell_of_heap gb 4
 have n5 := Lib.cell_of_heap gb 5
 have n6 := Lib.cell_of_heap gb 6
 simp [Lot.cells, zeroLot] at n0 n1 n2 n3 n4 n5 n6
 have g0 := Lib.frozen_of_heap gb 0
 have g1 := Lib.frozen_of_heap gb 1
 have g2 := Lib.frozen_of_heap gb 2
 have g3 := Lib.frozen_of_heap gb 3
 have g4 := Lib.frozen_of_heap gb 4
 have g5 := Lib.frozen_of_heap gb 5
 have g6 := Lib.frozen_of_heap gb 6
 clear ga gb
 have hne1 : w.heap.size + 1 ≠ w.heap.size + 2 := by omega
 have hne2 : w.heap.size + 2 ≠ w.heap.size + 1 := by omega
 go_wp2_with fail
 clear m0 m1 m2 m3 m4 m5 m6 n0 n1 n2 n3 n4 n5 n6
 have hA : LotBox ((((((((((((((w2.setCell ⟨w.heap.size + 1, 0, none⟩ (.string ⟨#[]⟩)).setCell ⟨w.heap.size + 1, 1, none⟩ (.string ⟨#[]⟩)).setCell ⟨w.heap.size + 1, 2, none⟩ (.int .i64 0)).setCell ⟨w.heap.size + 1, 3, none⟩ (.int .i64 0)).setCell ⟨w.heap.size + 1, 4, none⟩ (.string ⟨#[]⟩)).setCell ⟨w.heap.size + 1, 5, none⟩ (.string ⟨#[]⟩)).setCell ⟨w.heap.size + 1, 6, none⟩ (.string ⟨#[]⟩)).setCell ⟨w.heap.size + 2, 0, none⟩ (.string ⟨#[]⟩)).setCell ⟨w.heap.size + 2, 1, none⟩ (.string ⟨#[]⟩)).setCell ⟨w.heap.size + 2, 2, none⟩ (.int .i64 0)).setCell ⟨w.heap.size + 2, 3, none⟩ (.int .i64 0)).setCell ⟨w.heap.size + 2, 4, none⟩ (.string ⟨#[]⟩)).setCell ⟨w.heap.size + 2, 5, none⟩ (.string ⟨#[]⟩)).setCell ⟨w.heap.size + 2, 6, none⟩ (.string ⟨#[]⟩)) (w.heap.size + 1) zeroLot := (lfar7 (by omega) _ _ _ _ _ _ _).trans (lset7 CW2.out.za _ _ _ _ _ _ _)
 have hB : LotBox ((((((((((((((w2.setCell ⟨w.heap.size + 1, 0, none⟩ (.string ⟨#[]⟩)).setCell ⟨w.heap.size + 1, 1, none⟩ (.string ⟨#[]⟩)).setCell ⟨w.heap.size + 1, 2, none⟩ (.int .i64 0)).setCell ⟨w.heap.size + 1, 3, none⟩ (.int .i64 0)).setCell ⟨w.heap.size + 1, 4, none⟩ (.string ⟨#[]⟩)).setCell ⟨w.heap.size + 1, 5, none⟩ (.string ⟨#[]⟩)).setCell ⟨w.heap.size + 1, 6, none⟩ (.string ⟨#[]⟩)).setCell ⟨w.heap.size + 2, 0, none⟩ (.string ⟨#[]⟩)).setCell ⟨w.heap.size + 2, 1, none⟩ (.string ⟨#[]⟩)).setCell ⟨w.heap.size + 2, 2, none⟩ (.int .i64 0)).setCell ⟨w.heap.size + 2, 3, none⟩ (.int .i64 0)).setCell ⟨w.heap.size + 2, 4, none⟩ (.string ⟨#[]⟩)).setCell ⟨w.heap.size + 2, 5, none⟩ (.string ⟨#[]⟩)).setCell ⟨w.heap.size + 2, 6, none⟩ (.string ⟨#[]⟩)) (w.heap.size + 2) zeroLot := lset7 (w := (((((((w2.setCell ⟨w.heap.size + 1, 0, none⟩ (.string ⟨#[]⟩)).setCell ⟨w.heap.size + 1, 1, none⟩ (.string ⟨#[]⟩)).setCell ⟨w.heap.size + 1, 2, none⟩ (.int .i64 0)).setCell ⟨w.heap.size + 1, 3, none⟩ (.int .i64 0)).setCell ⟨w.heap.size + 1, 4, none⟩ (.string ⟨#[]⟩)).setCell ⟨w.heap.size + 1, 5, none⟩ (.string ⟨#[]⟩)).setCell ⟨w.heap.size + 1, 6, none⟩ (.string ⟨#[]⟩))) ((lfar7 (by omega) _ _ _ _ _ _ _).trans CW2.out.zb) _ _ _ _ _ _ _
 have hE : Below w.heap.size w ((((((((((((((w2.setCell ⟨w.heap.size + 1, 0, none⟩ (.string ⟨#[]⟩)).setCell ⟨w.heap.size + 1, 1, none⟩ (.string ⟨#[]⟩)).setCell ⟨w.heap.size + 1, 2, none⟩ (.int .i64 0)).setCell ⟨w.heap.size + 1, 3, none⟩ (.int .i64 0)).setCell ⟨w.heap.size + 1, 4, none⟩ (.string ⟨#[]⟩)).setCell ⟨w.heap.size + 1, 5, none⟩ (.string ⟨#[]⟩)).setCell ⟨w.heap.size + 1, 6, none⟩ (.string ⟨#[]⟩)).setCell ⟨w.heap.size + 2, 0, none⟩ (.string ⟨#[]⟩)).setCell ⟨w.heap.size + 2, 1, none⟩ (.string ⟨#[]⟩)).setCell ⟨w.heap.size + 2, 2, none⟩ (.int .i64 0)).setCell ⟨w.heap.size + 2, 3, none⟩ (.int .i64 0)).setCell ⟨w.heap.size + 2, 4, none⟩ (.string ⟨#[]⟩)).setCell ⟨w.heap.size + 2, 5, none⟩ (.string ⟨#[]⟩)).setCell ⟨w.heap.size + 2, 6, none⟩ (.string ⟨#[]⟩)) := lbelow7 (by omega) (lbelow7 (by omega) CW2.out.be _ _ _ _ _ _ _) _ _ _ _ _ _ _
 generalize ((((((((((((((w2.setCell ⟨w.heap.size + 1, 0, none⟩ (.string ⟨#[]⟩)).setCell ⟨w.heap.size + 1, 1, none⟩ (.string ⟨#[]⟩)).setCell ⟨w.heap.size + 1, 2, none⟩ (.int .i64 0)).setCell ⟨w.heap.size + 1, 3, none⟩ (.int .i64 0)).setCell ⟨w.heap.size + 1, 4, none⟩ (.string ⟨#[]⟩)).setCell ⟨w.heap.size + 1, 5, none⟩ (.string ⟨#[]⟩)).setCell ⟨w.heap.size + 1, 6, none⟩ (.string ⟨#[]⟩)).setCell ⟨w.heap.size + 2, 0, none⟩ (.string ⟨#[]⟩)).setCell ⟨w.heap.size + 2, 1, none⟩ (.string ⟨#[]⟩)).setCell ⟨w.heap.size + 2, 2, none⟩ (.int .i64 0)).setCell ⟨w.heap.size + 2, 3, none⟩ (.int .i64 0)).setCell ⟨w.heap.size + 2, 4, none⟩ (.string ⟨#[]⟩)).setCell ⟨w.heap.size + 2, 5, none⟩ (.string ⟨#[]⟩)).setCell ⟨w.heap.size + 2, 6, none⟩ (.string ⟨#[]⟩)) = W9 at hA hB hE ⊢
 have m0 := Lib.cell_of_heap hA 0
 have m1 := Lib.cell_of_heap hA 1
 have m2 := Lib.cell_of_heap hA 2
 have m3 := Lib.cell_of_heap hA 3
 have m4 := Lib.cell_of_heap hA 4
 have m5 := Lib.cell_of_heap hA 5
 have m6 := Lib.cell_of_heap hA 6
 simp [Lot.cells, zeroLot] at m0 m1 m2 m3 m4 m5 m6
 have n0 := Lib.cell_of_heap hB 0
 have n1 := Lib.cell_of_heap hB 1
 have n2 := Lib.cell_of_heap hB 2
 have n3 := Lib.cell_of_heap hB 3
 have n4 := Lib.cell_of_heap hB 4
 have n5 := Lib.cell_of_heap hB 5
 have n6 := Lib.cell_of_heap hB 6
 simp [Lot.cells, zeroLot] at n0 n1 n2 n3 n4 n5 n6
 exact bodyPost_ret (v := .tuple #[.agg #[.string ⟨#[]⟩, .string ⟨#[]⟩, .int .i64 0, .int .i64 0, .string ⟨#[]⟩, .string ⟨#[]⟩, .string ⟨#[]⟩], .agg #[.string ⟨#[]⟩, .string ⟨#[]⟩, .int .i64 0, .int .i64 0, .string ⟨#[]⟩, .string ⟨#[]⟩, .string ⟨#[]⟩], .int .i64 1]) (by simp [results, Tryz.results22, go_sem, m0, m1, m2, m3, m4, m5, m6, n0, n1, n2, n3, n4, n5, n6]) rfl ⟨rfl, hE⟩
set_option maxHeartbeats 8000000 in
set_option maxRecDepth 100000 in
theorem rCut19_e3 (l : Lot) (q : ByteArray) (hs : l.tiny) (q1 : q.size ≤ 13) (h : l.ok) (hq : Can q) (hr : vl q ≤ 0) (w : World) (ht : Tabs w) :
 Calls Tryz.prog 22 #[l.enc, .string q] w fun e w' => e = .returned (.tuple #[zeroLot.enc, zeroLot.enc, .int .i64 2]) ∧ Below w.heap.size w w' := by
 have HT := Lib.hid ht
 have CW := CutW.start w l
 obtain ⟨W0, hW0⟩ : ∃ W0, (((w.alloc (.cells l.cells 36)).alloc (.cells zeroLot.cells 36)).alloc (.cells zeroLot.cells 36)) = W0 := ⟨_, rfl⟩
 rw [hW0] at CW
 have k0 := CW.ib
 have c0 := Lib.cell_of_heap k0 0
 have c1 := Lib.cell_of_heap k0 1
 have c2 := Lib.cell_of_heap k0 2
 have c3 := Lib.cell_of_heap k0 3
 have c4 := Lib.cell_of_heap k0 4
 have c5 := Lib.cell_of_heap k0 5
 have c6 := Lib.cell_of_heap k0 6
 simp [Lot.cells] at c0 c1 c2 c3 c4 c5 c6
 have CW0 := Lib.hid CW
 have hkk := fun W (hW : Tabs W) => rCheck19_ex l hs W
 rw [lchk_zero.2 h] at hkk
 have HK := Lib.hid hkk
 clear hkk
 have HC := Lib.hid (fun W => eq_below (rCheck_yes q (by omega) hq W))
 have HM1 := Lib.hid (fun W => eq_below (rSign_any q (by omega) W))
 have d1 : decide (cmpI (vl q) 0 ≤ 0) = true := decide_eq_true (by rw [cmpI_le]; omega)
 clear CW k0 hs h ht hq hr
 unfold Lot.enc Lot.cells at *
 unfold zeroLot at hW0
 dsimp only at hW0
 go_enter Tryz.func22, Tryz.ntmps22
 go_wp2_with fail
 try rw [hW0]
 refine (HK.out W0 (HT.out.below CW0.out.be)).mono ?_
 rintro e w1 ⟨rfl, b1⟩
 have CW1 := Lib.hid (CW0.out.below b1)
 clear b1 HK hW0 c0 c1 c2 c3 c4 c5 c6
 go_wp2_with fail
 refine (HC.out w1).mono ?_
 rintro e w2 ⟨rfl, b2⟩
 have CW2 := Lib.hid (CW1.out.below b2)
 clear b2 HC CW1
 go_wp2_with fail
 refine (HM1.out w2).mono ?_
 rintro e w3 ⟨rfl, b3⟩
 have CW3 := Lib.hid (CW2.out.below b3)
 clear b3 HM1 CW2
 have ga := CW3.out.za
 have gb := CW3.out.zb
 have m0 := Lib.cell_of_heap ga 0
 have m1 := Lib.cell_of_heap ga 1
 have m2 := Lib.cell_of_heap ga 2
 have m3 := Lib.cell_of_heap ga 3
 have m4 := Lib.cell_of_heap ga 4
 have m5 := Lib.cell_of_heap ga 5
 have m6 := Lib.cell_of_heap ga 6
 simp [Lot.cells, zeroLot] at m0 m1 m2 m3 m4 m5 m6
 have f0 := Lib.frozen_of_heap ga 0
 have f1 := Lib.frozen_of_heap ga 1
 have f2 := Lib.frozen_of_heap ga 2
 have f3 := Lib.frozen_of_heap ga 3
 have f4 := Lib.frozen_of_heap ga 4
 have f5 := Lib.frozen_of_heap ga 5
 have f6 := Lib.frozen_of_heap ga 6
 have n0 := Lib.cell_of_heap gb 0
 have n1 := Lib.cell_of_heap gb 1
 have n2 := Lib.cell_of_heap gb 2
 have n3 := Lib.cell_of_heap gb 3
 have n4 := Lib.cell_of_heap gb 4
 have n5 := Lib.cell_of_heap gb 5
 have n6 := Lib.cell_of_heap gb 6
 simp [Lot.cells, zeroLot] at n0 n1 n2 n3 n4 n5 n6
 have g0 := Lib.frozen_of_heap gb 0
 have g1 := Lib.frozen_of_heap gb 1
 have g2 := Lib.frozen_of_heap gb 2
 have g3 := Lib.frozen_of_heap gb 3
 have g4 := Lib.frozen_of_heap gb 4
 have g5 := Lib.frozen_of_heap gb 5
 have g6 := Lib.frozen_of_heap gb 6
 clear ga gb
 have hne1 : w.heap.size + 1 ≠ w.heap.size + 2 := by omega
 have hne2 : w.heap.size + 2 ≠ w.heap.size + 1 := by omega
 go_wp2_with fail
 clear m0 m1 m2 m3 m4 m5 m6 n0 n1 n2 n3 n4 n5 n6
 have hA : LotBox ((((((((((((((w3.setCell ⟨w.heap.size + 1, 0, none⟩ (.string ⟨#[]⟩)).setCell ⟨w.heap.size + 1, 1, none⟩ (.string ⟨#[]⟩)).setCell ⟨w.heap.size + 1, 2, none⟩ (.int .i64 0)).setCell ⟨w.heap.size + 1, 3, none⟩ (.int .i64 0)).setCell ⟨w.heap.size + 1, 4, none⟩ (.string ⟨#[]⟩)).setCell ⟨w.heap.size + 1, 5, none⟩ (.string ⟨#[]⟩)).setCell ⟨w.heap.size + 1, 6, none⟩ (.string ⟨#[]⟩)).setCell ⟨w.heap.size + 2, 0, none⟩ (.string ⟨#[]⟩)).setCell ⟨w.heap.size + 2, 1, none⟩ (.string ⟨#[]⟩)).setCell ⟨w.heap.size + 2, 2, none⟩ (.int .i64 0)).setCell ⟨w.heap.size + 2, 3, none⟩ (.int .i64 0)).setCell ⟨w.heap.size + 2, 4, none⟩ (.string ⟨#[]⟩)).setCell ⟨w.heap.size + 2, 5, none⟩ (.string ⟨#[]⟩)).setCell ⟨w.heap.size + 2, 6, none⟩ (.string ⟨#[]⟩)) (w.heap.size + 1) zeroLot := (lfar7 (by omega) _ _ _ _ _ _ _).trans (lset7 CW3.out.za _ _ _ _ _ _ _)
 have hB : LotBox ((((((((((((((w3.setCell ⟨w.heap.size + 1, 0, none⟩ (.string ⟨#[]⟩)).setCell ⟨w.heap.size + 1, 1, none⟩ (.string ⟨#[]⟩)).setCell ⟨w.heap.size + 1, 2, none⟩ (.int .i64 0)).setCell ⟨w.heap.size + 1, 3, none⟩ (.int .i64 0)).setCell ⟨w.heap.size + 1, 4, none⟩ (.string ⟨#[]⟩)).setCell ⟨w.heap.size + 1, 5, none⟩ (.string ⟨#[]⟩)).setCell ⟨w.heap.size + 1, 6, none⟩ (.string ⟨#[]⟩)).setCell ⟨w.heap.size + 2, 0, none⟩ (.string ⟨#[]⟩)).setCell ⟨w.heap.size + 2, 1, none⟩ (.string ⟨#[]⟩)).setCell ⟨w.heap.size + 2, 2, none⟩ (.int .i64 0)).setCell ⟨w.heap.size + 2, 3, none⟩ (.int .i64 0)).setCell ⟨w.heap.size + 2, 4, none⟩ (.string ⟨#[]⟩)).setCell ⟨w.heap.size + 2, 5, none⟩ (.string ⟨#[]⟩)).setCell ⟨w.heap.size + 2, 6, none⟩ (.string ⟨#[]⟩)) (w.heap.size + 2) zeroLot := lset7 (w := (((((((w3.setCell ⟨w.heap.size + 1, 0, none⟩ (.string ⟨#[]⟩)).setCell ⟨w.heap.size + 1, 1, none⟩ (.string ⟨#[]⟩)).setCell ⟨w.heap.size + 1, 2, none⟩ (.int .i64 0)).setCell ⟨w.heap.size + 1, 3, none⟩ (.int .i64 0)).setCell ⟨w.heap.size + 1, 4, none⟩ (.string ⟨#[]⟩)).setCell ⟨w.heap.size + 1, 5, none⟩ (.string ⟨#[]⟩)).setCell ⟨w.heap.size + 1, 6, none⟩ (.string ⟨#[]⟩))) ((lfar7 (by omega) _ _ _ _ _ _ _).trans CW3.out.zb) _ _ _ _ _ _ _
 have hE : Below w.heap.size w ((((((((((((((w3.setCell ⟨w.heap.size + 1, 0, none⟩ (.string ⟨#[]⟩)).setCell ⟨w.heap.size + 1, 1, none⟩ (.string ⟨#[]⟩)).setCell ⟨w.heap.size + 1, 2, none⟩ (.int .i64 0)).setCell ⟨w.heap.size + 1, 3, none⟩ (.int .i64 0)).setCell ⟨w.heap.size + 1, 4, none⟩ (.string ⟨#[]⟩)).setCell ⟨w.heap.size + 1, 5, none⟩ (.string ⟨#[]⟩)).setCell ⟨w.heap.size + 1, 6, none⟩ (.string ⟨#[]⟩)).setCell ⟨w.heap.size + 2, 0, none⟩ (.string ⟨#[]⟩)).setCell ⟨w.heap.size + 2, 1, none⟩ (.string ⟨#[]⟩)).setCell ⟨w.heap.size + 2, 2, none⟩ (.int .i64 0)).setCell ⟨w.heap.size + 2, 3, none⟩ (.int .i64 0)).setCell ⟨w.heap.size + 2, 4, none⟩ (.string ⟨#[]⟩)).setCell ⟨w.heap.size + 2, 5, none⟩ (.string ⟨#[]⟩)).setCell ⟨w.heap.size + 2, 6, none⟩ (.string ⟨#[]⟩)) := lbelow7 (by omega) (lbelow7 (by omega) CW3.out.be _ _ _ _ _ _ _) _ _ _ _ _ _ _
 generalize ((((((((((((((w3.setCell ⟨w.heap.size + 1, 0, none⟩ (.string ⟨#[]⟩)).setCell ⟨w.heap.size + 1, 1, none⟩ (.string ⟨#[]⟩)).setCell ⟨w.heap.size + 1, 2, none⟩ (.int .i64 0)).setCell ⟨w.heap.size + 1, 3, none⟩ (.int .i64 0)).setCell ⟨w.heap.size + 1, 4, none⟩ (.string ⟨#[]⟩)).setCell ⟨w.heap.size + 1, 5, none⟩ (.string ⟨#[]⟩)).setCell ⟨w.heap.size + 1, 6, none⟩ (.string ⟨#[]⟩)).setCell ⟨w.heap.size + 2, 0, none⟩ (.string ⟨#[]⟩)).setCell ⟨w.heap.size + 2, 1, none⟩ (.string ⟨#[]⟩)).setCell ⟨w.heap.size + 2, 2, none⟩ (.int .i64 0)).setCell ⟨w.heap.size + 2, 3, none⟩ (.int .i64 0)).setCell ⟨w.heap.size + 2, 4, none⟩ (.string ⟨#[]⟩)).setCell ⟨w.heap.size + 2, 5, none⟩ (.string ⟨#[]⟩)).setCell ⟨w.heap.size + 2, 6, none⟩ (.string ⟨#[]⟩)) = W9 at hA hB hE ⊢
 have m0 := Lib.cell_of_heap hA 0
 have m1 := Lib.cell_of_heap hA 1
 have m2 := Lib.cell_of_heap hA 2
 have m3 := Lib.cell_of_heap hA 3
 have m4 := Lib.cell_of_heap hA 4
 have m5 := Lib.cell_of_heap hA 5
 have m6 := Lib.cell_of_heap hA 6
 simp [Lot.cells, zeroLot] at m0 m1 m2 m3 m4 m5 m6
 have n0 := Lib.cell_of_heap hB 0
 have n1 := Lib.cell_of_heap hB 1
 have n2 := Lib.cell_of_heap hB 2
 have n3 := Lib.cell_of_heap hB 3
 have n4 := Lib.cell_of_heap hB 4
 have n5 := Lib.cell_of_heap hB 5
 have n6 := Lib.cell_of_heap hB 6
 simp [Lot.cells, zeroLot] at n0 n1 n2 n3 n4 n5 n6
 exact bodyPost_ret (v := .tuple #[.agg #[.string ⟨#[]⟩, .string ⟨#[]⟩, .int .i64 0, .int .i64 0, .string ⟨#[]⟩, .string ⟨#[]⟩, .string ⟨#[]⟩], .agg #[.string ⟨#[]⟩, .string ⟨#[]⟩, .int .i64 0, .int .i64 0, .string ⟨#[]⟩, .string ⟨#[]⟩, .string ⟨#[]⟩], .int .i64 2]) (by simp [results, Tryz.results22, go_sem, m0, m1, m2, m3, m4, m5, m6, n0, n1, n2, n3, n4, n5, n6]) rfl ⟨rfl, hE⟩
set_option maxHeartbeats 8000000 in
set_option maxRecDepth 100000 in
theorem rCut19_e4 (l : Lot) (q : ByteArray) (hs : l.tiny) (q1 : q.size ≤ 13) (h : l.ok) (hq : Can q) (hp : 0 < vl q) (hr : vl l.qty ≤ vl q) (w : World) (ht : Tabs w) :
 Calls Tryz.prog 22 #[l.enc, .string q] w fun e w' => e = .returned (.tuple #[zeroLot.enc, zeroLot.enc, .int .i64 2]) ∧ Below w.heap.size w w' := by
 have hzq : l.qty.size ≤ 1000 := by obtain ⟨z1, z2, z3, z4, z5⟩ := id hs; omega
 have HT := Lib.hid ht
 have CW := CutW.start w l
 obtain ⟨W0, hW0⟩ : ∃ W0, (((w.alloc (.cells l.cells 36)).alloc (.cells zeroLot.cells 36)).alloc (.cells zeroLot.cells 36)) = W0 := ⟨_, rfl⟩
 rw [hW0] at CW
 have k0 := CW.ib
 have c0 := Lib.cell_of_heap k0 0
 have c1 := Lib.cell_of_heap k0 1
 have c2 := Lib.cell_of_heap k0 2
 have c3 := Lib.cell_of_heap k0 3
 have c4 := Lib.cell_of_heap k0 4
 have c5 := Lib.cell_of_heap k0 5
 have c6 := Lib.cell_of_heap k0 6
 simp [Lot.cells] at c0 c1 c2 c3 c4 c5 c6
 have CW0 := Lib.hid CW
 have hkk := fun W (hW : Tabs W) => rCheck19_ex l hs W
 rw [lchk_zero.2 h] at hkk
 have HK := Lib.hid hkk
 clear hkk
 have HC := Lib.hid (fun W => eq_below (rCheck_yes q (by omega) hq W))
 have HM1 := Lib.hid (fun W => eq_below (rSign_any q (by omega) W))
 have HM2 := Lib.hid (fun W => eq_below (rCompare_any q l.qty (by omega) (by omega) W))
 have d1 : decide (cmpI (vl q) 0 ≤ 0) = false := decide_eq_false (by rw [cmpI_le]; omega)
 have d2 : decide (0 ≤ cmpI (vl q) (vl l.qty)) = true := decide_eq_true (by rw [cmpI_ge]; omega)
 have d3 : decide (cmpI (vl q) (vl l.qty) ≥ 0) = true := d2
 clear CW k0 hs h ht hq hr hp hzq
 unfold Lot.enc Lot.cells at *
 unfold zeroLot at hW0
 dsimp only at hW0
 go_enter Tryz.func22, Tryz.ntmps22
 go_wp2_with fail
 try rw [hW0]
 refine (HK.out W0 (HT.out.below CW0.out.be)).mono ?_
 rintro e w1 ⟨rfl, b1⟩
 have CW1 := Lib.hid (CW0.out.below b1)
 clear b1 HK hW0 c0 c1 c2 c3 c4 c5 c6
 go_wp2_with fail
 refine (HC.out w1).mono ?_
 rintro e w2 ⟨rfl, b2⟩
 have CW2 := Lib.hid (CW1.out.below b2)
 clear b2 HC CW1
 go_wp2_with fail
 refine (HM1.out w2).mono ?_
 rintro e w3 ⟨rfl, b3⟩
 have CW3 := Lib.hid (CW2.out.below b3)
 have k3 := CW3.out.ib
 have c0 := Lib.cell_of_heap k3 0
 have c1 := Lib.cell_of_heap k3 1
 have c2 := Lib.cell_of_heap k3 2
 have c3 := Lib.cell_of_heap k3 3
 have c4 := Lib.cell_of_heap k3 4
 have c5 := Lib.cell_of_heap k3 5
 have c6 := Lib.cell_of_heap k3 6
 simp [Lot.cells] at c0 c1 c2 c3 c4 c5 c6
 clear b3 HM1 CW2 k3
 go_wp2_with fail
 refine (HM2.out w3).mono ?_
 rintro e w4 ⟨rfl, b4⟩
 have CW4 := Lib.hid (CW3.out.below b4)
 clear b4 HM2 CW3 c0 c1 c2 c3 c4 c5 c6
 have ga := CW4.out.za
 have gb := CW4.out.zb
 have m0 := Lib.cell_of_heap ga 0
 have m1 := Lib.cell_of_heap ga 1
 have m2 := Lib.cell_of_heap ga 2
 have m3 := Lib.cell_of_heap ga 3
 have m4 := Lib.cell_of_heap ga 4
 have m5 := Lib.cell_of_heap ga 5
 have m6 := Lib.cell_of_heap ga 6
 simp [Lot.cells, zeroLot] at m0 m1 m2 m3 m4 m5 m6
 have f0 := Lib.frozen_of_heap ga 0
 have f1 := Lib.frozen_of_heap ga 1
 have f2 := Lib.frozen_of_heap ga 2
 have f3 := Lib.frozen_of_heap ga 3
 have f4 := Lib.frozen_of_heap ga 4
 have f5 := Lib.frozen_of_heap ga 5
 have f6 := Lib.frozen_of_heap ga 6
 have n0 := Lib.cell_of_heap gb 0
 have n1 := Lib.cell_of_heap gb 1
 have n2 := Lib.cell_of_heap gb 2
 have n3 := Lib.cell_of_heap gb 3
 have n4 := Lib.cell_of_heap gb 4
 have n5 := Lib.cell_of_heap gb 5
 have n6 := Lib.cell_of_heap gb 6
 simp [Lot.cells, zeroLot] at n0 n1 n2 n3 n4 n5 n6
 have g0 := Lib.frozen_of_heap gb 0
 have g1 := Lib.frozen_of_heap gb 1
 have g2 := Lib.frozen_of_heap gb 2
 have g3 := Lib.frozen_of_heap gb 3
 have g4 := Lib.frozen_of_heap gb 4
 have g5 := Lib.frozen_of_heap gb 5
 have g6 := Lib.frozen_of_heap gb 6
 clear ga gb
 have hne1 : w.heap.size + 1 ≠ w.heap.size + 2 := by omega
 have hne2 : w.heap.size + 2 ≠ w.heap.size + 1 := by omega
 go_wp2_with fail
 clear m0 m1 m2 m3 m4 m5 m6 n0 n1 n2 n3 n4 n5 n6
 have hA : LotBox ((((((((((((((w4.setCell ⟨w.heap.size + 1, 0, none⟩ (.string ⟨#[]⟩)).setCell ⟨w.heap.size + 1, 1, none⟩ (.string ⟨#[]⟩)).setCell ⟨w.heap.size + 1, 2, none⟩ (.int .i64 0)).setCell ⟨w.heap.size + 1, 3, none⟩ (.int .i64 0)).setCell ⟨w.heap.size + 1, 4, none⟩ (.string ⟨#[]⟩)).setCell ⟨w.heap.size + 1, 5, none⟩ (.string ⟨#[]⟩)).setCell ⟨w.heap.size + 1, 6, none⟩ (.string ⟨#[]⟩)).setCell ⟨w.heap.size + 2, 0, none⟩ (.string ⟨#[]⟩)).setCell ⟨w.heap.size + 2, 1, none⟩ (.string ⟨#[]⟩)).setCell ⟨w.heap.size + 2, 2, none⟩ (.int .i64 0)).setCell ⟨w.heap.size + 2, 3, none⟩ (.int .i64 0)).setCell ⟨w.heap.size + 2, 4, none⟩ (.string ⟨#[]⟩)).setCell ⟨w.heap.size + 2, 5, none⟩ (.string ⟨#[]⟩)).setCell ⟨w.heap.size + 2, 6, none⟩ (.string ⟨#[]⟩)) (w.heap.size + 1) zeroLot := (lfar7 (by omega) _ _ _ _ _ _ _).trans (lset7 CW4.out.za _ _ _ _ _ _ _)
 have hB : LotBox ((((((((((((((w4.setCell ⟨w.heap.size + 1, 0, none⟩ (.string ⟨#[]⟩)).setCell ⟨w.heap.size + 1, 1, none⟩ (.string ⟨#[]⟩)).setCell ⟨w.heap.size + 1, 2, none⟩ (.int .i64 0)).setCell ⟨w.heap.size + 1, 3, none⟩ (.int .i64 0)).setCell ⟨w.heap.size + 1, 4, none⟩ (.string ⟨#[]⟩)).setCell ⟨w.heap.size + 1, 5, none⟩ (.string ⟨#[]⟩)).setCell ⟨w.heap.size + 1, 6, none⟩ (.string ⟨#[]⟩)).setCell ⟨w.heap.size + 2, 0, none⟩ (.string ⟨#[]⟩)).setCell ⟨w.heap.size + 2, 1, none⟩ (.string ⟨#[]⟩)).setCell ⟨w.heap.size + 2, 2, none⟩ (.int .i64 0)).setCell ⟨w.heap.size + 2, 3, none⟩ (.int .i64 0)).setCell ⟨w.heap.size + 2, 4, none⟩ (.string ⟨#[]⟩)).setCell ⟨w.heap.size + 2, 5, none⟩ (.string ⟨#[]⟩)).setCell ⟨w.heap.size + 2, 6, none⟩ (.string ⟨#[]⟩)) (w.heap.size + 2) zeroLot := lset7 (w := (((((((w4.setCell ⟨w.heap.size + 1, 0, none⟩ (.string ⟨#[]⟩)).setCell ⟨w.heap.size + 1, 1, none⟩ (.string ⟨#[]⟩)).setCell ⟨w.heap.size + 1, 2, none⟩ (.int .i64 0)).setCell ⟨w.heap.size + 1, 3, none⟩ (.int .i64 0)).setCell ⟨w.heap.size + 1, 4, none⟩ (.string ⟨#[]⟩)).setCell ⟨w.heap.size + 1, 5, none⟩ (.string ⟨#[]⟩)).setCell ⟨w.heap.size + 1, 6, none⟩ (.string ⟨#[]⟩))) ((lfar7 (by omega) _ _ _ _ _ _ _).trans CW4.out.zb) _ _ _ _ _ _ _
 have hE : Below w.heap.size w ((((((((((((((w4.setCell ⟨w.heap.size + 1, 0, none⟩ (.string ⟨#[]⟩)).setCell ⟨w.heap.size + 1, 1, none⟩ (.string ⟨#[]⟩)).setCell ⟨w.heap.size + 1, 2, none⟩ (.int .i64 0)).setCell ⟨w.heap.size + 1, 3, none⟩ (.int .i64 0)).setCell ⟨w.heap.size + 1, 4, none⟩ (.string ⟨#[]⟩)).setCell ⟨w.heap.size + 1, 5, none⟩ (.string ⟨#[]⟩)).setCell ⟨w.heap.size + 1, 6, none⟩ (.string ⟨#[]⟩)).setCell ⟨w.heap.size + 2, 0, none⟩ (.string ⟨#[]⟩)).setCell ⟨w.heap.size + 2, 1, none⟩ (.string ⟨#[]⟩)).setCell ⟨w.heap.size + 2, 2, none⟩ (.int .i64 0)).setCell ⟨w.heap.size + 2, 3, none⟩ (.int .i64 0)).setCell ⟨w.heap.size + 2, 4, none⟩ (.string ⟨#[]⟩)).setCell ⟨w.heap.size + 2, 5, none⟩ (.string ⟨#[]⟩)).setCell ⟨w.heap.size + 2, 6, none⟩ (.string ⟨#[]⟩)) := lbelow7 (by omega) (lbelow7 (by omega) CW4.out.be _ _ _ _ _ _ _) _ _ _ _ _ _ _
 generalize ((((((((((((((w4.setCell ⟨w.heap.size + 1, 0, none⟩ (.string ⟨#[]⟩)).setCell ⟨w.heap.size + 1, 1, none⟩ (.string ⟨#[]⟩)).setCell ⟨w.heap.size + 1, 2, none⟩ (.int .i64 0)).setCell ⟨w.heap.size + 1, 3, none⟩ (.int .i64 0)).setCell ⟨w.heap.size + 1, 4, none⟩ (.string ⟨#[]⟩)).setCell ⟨w.heap.size + 1, 5, none⟩ (.string ⟨#[]⟩)).setCell ⟨w.heap.size + 1, 6, none⟩ (.string ⟨#[]⟩)).setCell ⟨w.heap.size + 2, 0, none⟩ (.string ⟨#[]⟩)).setCell ⟨w.heap.size + 2, 1, none⟩ (.string ⟨#[]⟩)).setCell ⟨w.heap.size + 2, 2, none⟩ (.int .i64 0)).setCell ⟨w.heap.size + 2, 3, none⟩ (.int .i64 0)).setCell ⟨w.heap.size + 2, 4, none⟩ (.string ⟨#[]⟩)).setCell ⟨w.heap.size + 2, 5, none⟩ (.string ⟨#[]⟩)).setCell ⟨w.heap.size + 2, 6, none⟩ (.string ⟨#[]⟩)) = W9 at hA hB hE ⊢
 have m0 := Lib.cell_of_heap hA 0
 have m1 := Lib.cell_of_heap hA 1
 have m2 := Lib.cell_of_heap hA 2
 have m3 := Lib.cell_of_heap hA 3
 have m4 := Lib.cell_of_heap hA 4
 have m5 := Lib.cell_of_heap hA 5
 have m6 := Lib.cell_of_heap hA 6
 simp [Lot.cells, zeroLot] at m0 m1 m2 m3 m4 m5 m6
 have n0 := Lib.cell_of_heap hB 0
 have n1 := Lib.cell_of_heap hB 1
 have n2 := Lib.cell_of_heap hB 2
 have n3 := Lib.cell_of_heap hB 3
 have n4 := Lib.cell_of_heap hB 4
 have n5 := Lib.cell_of_heap hB 5
 have n6 := Lib.cell_of_heap hB 6
 simp [Lot.cells, zeroLot] at n0 n1 n2 n3 n4 n5 n6
 exact bodyPost_ret (v := .tuple #[.agg #[.string ⟨#[]⟩, .string ⟨#[]⟩, .int .i64 0, .int .i64 0, .string ⟨#[]⟩, .string ⟨#[]⟩, .string ⟨#[]⟩], .agg #[.string ⟨#[]⟩, .string ⟨#[]⟩, .int .i64 0, .int .i64 0, .string ⟨#[]⟩, .string ⟨#[]⟩, .string ⟨#[]⟩], .int .i64 2]) (by simp [results, Tryz.results22, go_sem, m0, m1, m2, m3, m4, m5, m6, n0, n1, n2, n3, n4, n5, n6]) rfl ⟨rfl, hE⟩
end Go.Proofs.YthmfkgcoocikjaaGreatDoor
