/-
  The walk of instrument.bond: 0 exactly where valid. (Printed by gen_ins9b.py.)
  The walk of instrument.bond: 0 exactly where valid. (Printed by gen_ins9b.py.)
-/
import Derived.Test.YtpgjmdggblnfkaaGreatDoorLA1
import Derived.Deep.RegionWith
set_option linter.unusedVariables false
set_option linter.unusedSimpArgs false
set_option maxHeartbeats 16000000
set_option maxRecDepth 100000
namespace Go.Proofs.YtpgjmdggblnfkaaGreatDoor
open Go.RowKit Tr Go.Shelf
theorem bond_a (i : Inst) (hs : i.sized) (h1 : ¬ 0 < vl i.fn) (w : World) :
 Calls Tryz.prog 155 #[i.enc] w fun e w' => e = .returned (.int .i64 2) ∧ Below w.heap.size w w' := by
 obtain ⟨W0, hW0, hB0, hz, hk⟩ := ibox i w
 obtain ⟨W1, hW1⟩ : ∃ W1, W0.alloc (.cells #[.int .i64 1, .int .i64 2, .int .i64 3, .int .i64 4, .int .i64 6, .int .i64 12] 217) = W1 := ⟨_, rfl⟩
 have hB1 : Below w.heap.size w W1 := by rw [← hW1]; exact hB0.alloc (by omega) _
 have hk1 : W1.heap[w.heap.size]? = some (.cells i.cells 27) := by rw [← hW1]; exact (Below.heap_alloc _ _ _ (by omega)).trans hk
 have hkm : W1.heap[w.heap.size + 1]? = some (.cells #[.int .i64 1, .int .i64 2, .int .i64 3, .int .i64 4, .int .i64 6, .int .i64 12] 217) := by
  rw [← hW1, ← hz]; exact heap_alloc_new W0 _
 have c6 := Lib.cell_of_heap hk1 6
 have c7 := Lib.cell_of_heap hk1 7
 have c8 := Lib.cell_of_heap hk1 8
 have c9 := Lib.cell_of_heap hk1 9
 have c10 := Lib.cell_of_heap hk1 10
 have c11 := Lib.cell_of_heap hk1 11
 have c12 := Lib.cell_of_heap hk1 12
 have c13 := Lib.cell_of_heap hk1 13
 have c14 := Lib.cell_of_heap hk1 14
 simp at c6 c7 c8 c9 c10 c11 c12 c13 c14
 have HB1 := Lib.hid hB1
 have HKM := Lib.hid hkm
 obtain ⟨z1, z2, z3, z4, z5, z6, z7, z8, z9⟩ := hs
 have hsz : W0.heap.size = w.heap.size + 1 := hz
 have q1 : decide (cmpI (vl i.fn) 0 ≤ 0) = true := decide_eq_true (by rw [cmpI_le]; omega)
 clear hk hB0 hz hk1 hkm hB1 h1
 unfold Inst.enc Inst.cells at *
 go_enter Tryz.func155, Tryz.ntmps155
 go_wp2_with fail
 first
 | go_region_with (first
    | (go_at_call_of 206 [Value.agg #[Value.string i.fn, Value.string i.fd]]; refine (isign_any i.fn i.fd (by omega) W1.drew).mono ?_; rintro e w1 ⟨rfl, b1⟩; have d6 := keepc c6 b1; have d7 := keepc c7 b1; have d8 := keepc c8 b1; have d9 := keepc c9 b1; have d10 := keepc c10 b1; have d11 := keepc c11 b1; have d12 := keepc c12 b1; have d13 := keepc c13 b1; have d14 := keepc c14 b1; have HB2 := Lib.hid (HB1.out.drew.trans (b1.mono HB1.out.size)); have HKM1 := Lib.hid ((b1.block (w.heap.size + 1) (Array.getElem?_eq_some_iff.1 HKM.out).1).trans HKM.out); clear b1))
 | fail "the region fell"
 all_goals
  go_wp2_with fail
  go_ret
  exact ⟨rfl, HB2.out⟩
theorem bond_b (i : Inst) (hs : i.sized) (h1 : 0 < vl i.fn) (h2 : ¬ 0 ≤ vl i.cn) (w : World) :
 Calls Tryz.prog 155 #[i.enc] w fun e w' => e = .returned (.int .i64 2) ∧ Below w.heap.size w w' := by
 obtain ⟨W0, hW0, hB0, hz, hk⟩ := ibox i w
 obtain ⟨W1, hW1⟩ : ∃ W1, W0.alloc (.cells #[.int .i64 1, .int .i64 2, .int .i64 3, .int .i64 4, .int .i64 6, .int .i64 12] 217) = W1 := ⟨_, rfl⟩
 have hB1 : Below w.heap.size w W1 := by rw [← hW1]; exact hB0.alloc (by omega) _
 have hk1 : W1.heap[w.heap.size]? = some (.cells i.cells 27) := by rw [← hW1]; exact (Below.heap_alloc _ _ _ (by omega)).trans hk
 have hkm : W1.heap[w.heap.size + 1]? = some (.cells #[.int .i64 1, .int .i64 2, .int .i64 3, .int .i64 4, .int .i64 6, .int .i64 12] 217) := by
  rw [← hW1, ← hz]; exact heap_alloc_new W0 _
 have c6 := Lib.cell_of_heap hk1 6
 have c7 := Lib.cell_of_heap hk1 7
 have c8 := Lib.cell_of_heap hk1 8
 have c9 := Lib.cell_of_heap hk1 9
 have c10 := Lib.cell_of_heap hk1 10
 have c11 := Lib.cell_of_heap hk1 11
 have c12 := Lib.cell_of_heap hk1 12
 have c13 := Lib.cell_of_heap hk1 13
 have c14 := Lib.cell_of_heap hk1 14
 simp at c6 c7 c8 c9 c10 c11 c12 c13 c14
 have HB1 := Lib.hid hB1
 have HKM := Lib.hid hkm
 obtain ⟨z1, z2, z3, z4, z5, z6, z7, z8, z9⟩ := hs
 have hsz : W0.heap.size = w.heap.size + 1 := hz
 have q1 : decide (cmpI (vl i.fn) 0 ≤ 0) = false := decide_eq_false (by rw [cmpI_le]; omega)
 have q2 : decide (cmpI (vl i.cn) 0 < 0) = true := decide_eq_true (by rw [cmpI_lt]; omega)
 clear hk hB0 hz hk1 hkm hB1 h1 h2
 unfold Inst.enc Inst.cells at *
 go_enter Tryz.func155, Tryz.ntmps155
 go_wp2_with fail
 first
 | go_region_with (first
    | (go_at_call_of 206 [Value.agg #[Value.string i.fn, Value.string i.fd]]; refine (isign_any i.fn i.fd (by omega) W1.drew).mono ?_; rintro e w1 ⟨rfl, b1⟩; have d6 := keepc c6 b1; have d7 := keepc c7 b1; have d8 := keepc c8 b1; have d9 := keepc c9 b1; have d10 := keepc c10 b1; have d11 := keepc c11 b1; have d12 := keepc c12 b1; have d13 := keepc c13 b1; have d14 := keepc c14 b1; have HB2 := Lib.hid (HB1.out.drew.trans (b1.mono HB1.out.size)); have HKM1 := Lib.hid ((b1.block (w.heap.size + 1) (Array.getElem?_eq_some_iff.1 HKM.out).1).trans HKM.out); clear b1)
    | (go_at_call_of 206 [Value.agg #[Value.string i.cn, Value.string i.cd]]; refine (isign_any i.cn i.cd (by omega) w1).mono ?_; rintro e w2 ⟨rfl, b2⟩; have g6 := keepc d6 b2; have g7 := keepc d7 b2; have g8 := keepc d8 b2; have g9 := keepc d9 b2; have g10 := keepc d10 b2; have g11 := keepc d11 b2; have g12 := keepc d12 b2; have g13 := keepc d13 b2; have g14 := keepc d14 b2; have HB3 := Lib.hid (HB2.out.trans (b2.mono HB2.out.size)); have HKM2 := Lib.hid ((b2.block (w.heap.size + 1) (Array.getElem?_eq_some_iff.1 HKM1.out).1).trans HKM1.out); clear b2))
 | fail "the region fell"
 all_goals
  go_wp2_with fail
  go_ret
  exact ⟨rfl, HB3.out⟩
end Go.Proofs.YtpgjmdggblnfkaaGreatDoor
