/-
  Fractions: what is exported. (Printed by gen_frac4.py.)
-/
import Derived.Test.YtcnmoobojdopgaaGreatDoorS16
set_option linter.unusedVariables false
set_option linter.unusedSimpArgs false
set_option maxHeartbeats 16000000
set_option maxRecDepth 100000
namespace Go.Proofs.YtcnmoobojdopgaaGreatDoor
open Go.RowKit Tr Go.Shelf
theorem two_lt (k : Nat) {x : Nat} (h : x < 10 ^ k + 10 ^ k) : x < 10 ^ (k + 1) := by
 rw [Nat.pow_succ]; omega
theorem prod_lt {a d : ByteArray} {k : Nat} (ha : a.size ≤ k) (hd : d.size ≤ k) : (vl a * vl d).natAbs < 10 ^ (k + k) := by
 rw [Int.natAbs_mul, Nat.pow_add]
 refine Nat.lt_of_lt_of_le (Nat.mul_lt_mul_of_lt_of_le (vl_lt a) (Nat.le_of_lt (vl_lt d)) (Nat.pow_pos (by omega))) ?_
 exact Nat.mul_le_mul (Nat.pow_le_pow_right (by omega) ha) (Nat.pow_le_pow_right (by omega) hd)
theorem sum_size {a b c d : ByteArray} {k : Nat} (ha : a.size ≤ k) (hb : b.size ≤ k) (hc : c.size ≤ k) (hd : d.size ≤ k) : (I (vl a * vl d + vl c * vl b)).size ≤ k + k + 2 := by
 refine I_size_le (k := k + k + 1) (two_lt _ ?_)
 have h1 := prod_lt ha hd
 have h2 := prod_lt hc hb
 omega
theorem diff_size {a b c d : ByteArray} {k : Nat} (ha : a.size ≤ k) (hb : b.size ≤ k) (hc : c.size ≤ k) (hd : d.size ≤ k) : (I (vl a * vl d - vl c * vl b)).size ≤ k + k + 2 := by
 refine I_size_le (k := k + k + 1) (two_lt _ ?_)
 have h1 := prod_lt ha hd
 have h2 := prod_lt hc hb
 omega
theorem add_q (a b c d : Int) (hb : b ≠ 0) (hd : d ≠ 0) : Rat.divInt (a * d + c * b) (b * d) = Rat.divInt a b + Rat.divInt c d := (Rat.divInt_add_divInt _ _ hb hd).symm
theorem sub_q (a b c d : Int) (hb : b ≠ 0) (hd : d ≠ 0) : Rat.divInt (a * d - c * b) (b * d) = Rat.divInt a b - Rat.divInt c d := (Rat.divInt_sub_divInt _ _ hb hd).symm
theorem mul_q (a b c d : Int) : Rat.divInt (a * c) (b * d) = Rat.divInt a b * Rat.divInt c d := (Rat.divInt_mul_divInt _ _).symm
theorem div_q (a b c d : Int) : Rat.divInt (a * d) (b * c) = Rat.divInt a b / Rat.divInt c d := by
 rw [Rat.div_def, Rat.inv_divInt, Rat.divInt_mul_divInt]
theorem idx_ops1 (B : Nat) (w : World) : Sem.run Tryz.prog (Instr.index 83 (Value.agg #[opv 103 B, opv 104 B, opv 105 B, opv 106 B]) (.int .i64 0)) w = .ok (opv 103 B) w := by
 unfold Instr.index; simp [go_sem, asAgg]
theorem idx_ops2 (B : Nat) (w : World) : Sem.run Tryz.prog (Instr.index 83 (Value.agg #[opv 103 B, opv 104 B, opv 105 B, opv 106 B]) (.int .i64 1)) w = .ok (opv 104 B) w := by
 unfold Instr.index; simp [go_sem, asAgg]
theorem idx_ops3 (B : Nat) (w : World) : Sem.run Tryz.prog (Instr.index 83 (Value.agg #[opv 103 B, opv 104 B, opv 105 B, opv 106 B]) (.int .i64 2)) w = .ok (opv 105 B) w := by
 unfold Instr.index; simp [go_sem, asAgg]
theorem idx_ops4 (B : Nat) (w : World) : Sem.run Tryz.prog (Instr.index 83 (Value.agg #[opv 103 B, opv 104 B, opv 105 B, opv 106 B]) (.int .i64 3)) w = .ok (opv 106 B) w := by
 unfold Instr.index; simp [go_sem, asAgg]
theorem fAdd_any (n1 d1 n2 d2 : ByteArray) (w : World) (s1 : n1.size ≤ 900000) (s2 : d1.size ≤ 900000) (s3 : n2.size ≤ 900000) (s4 : d2.size ≤ 900000) (ht : Tabs w) :
 Calls Tryz.prog 51 #[.agg #[.string n1, .string d1], .agg #[.string n2, .string d2]] w fun e w' => e = .returned (fenc (fv n1 d1 + fv n2 d2)) ∧ Below w.heap.size w w' := by
 have e1 := dd_size d1
 have e2 := dd_size d2
 have AP := fun (W : World) (B : Nat) (hM : MulBox W B) (h : Tabs W) => apply_any 103 (fun a b c d => a * d + c * b) (fun a b c d => b * d) op1_any (enters_of Tryz.func103 (by kernel_rfl) rfl) n1 d1 n2 d2 B W s1 s2 s3 s4 (Int.mul_ne_zero (dd_ne d1) (dd_ne d2)) (Nat.le_trans (sum_size (a := n1) (b := dd d1) (c := n2) (d := dd d2) (k := 900001) (by omega) (by omega) (by omega) (by omega)) (by omega)) (Nat.le_trans (mul_size (k := 900001) (m := 900001) (a := dd d1) (b := dd d2) (by omega) (by omega)) (by omega)) hM h
 rw [show Rat.divInt ((fun a b c d : Int => a * d + c * b) (vl n1) (vl (dd d1)) (vl n2) (vl (dd d2))) ((fun a b c d : Int => b * d) (vl n1) (vl (dd d1)) (vl n2) (vl (dd d2))) = fv n1 d1 + fv n2 d2 from add_q _ _ _ _ (dd_ne d1) (dd_ne d2)] at AP
 have HAP := Lib.hid AP
 have HT := Lib.hid ht
 generalize hq : fv n1 d1 + fv n2 d2 = q at HAP ⊢
 clear ht AP hq
 obtain ⟨W0, hW0', hB0, hz, k0, k1, k2⟩ := box3 w (.cells #[.string n1, .string d1] 25) (.cells #[.string n2, .string d2] 25) (.cells #[.string ⟨#[]⟩, .string ⟨#[]⟩] 25)
 have hW0 := hW0'.symm
 have a0 := Lib.cell_of_heap k0 0
 have a1 := Lib.cell_of_heap k0 1
 have a2 := Lib.cell_of_heap k1 0
 have a3 := Lib.cell_of_heap k1 1
 simp at a0 a1 a2 a3
 have K2 := Lib.hid k2
 have HB0 := Lib.hid hB0
 have HZ := Lib.hid hz
 clear hW0' k0 k1 k2 hB0 hz
 have hix := idx_ops1
 go_enter Tryz.func51, Tryz.ntmps51
 go_wp2_with fail
 go_region_held3 (fun W => W.cell? ⟨w.heap.size, 0, none⟩ = some (.string n1) ∧ W.cell? ⟨w.heap.size, 1, none⟩ = some (.string d1) ∧ W.cell? ⟨w.heap.size + 1, 0, none⟩ = some (.string n2) ∧ W.cell? ⟨w.heap.size + 1, 1, none⟩ = some (.string d2))
  (refine ⟨?_, ?_, ?_, ?_⟩ <;> first | assumption | (go_simp; done))
  (first
    | (go_at_call 48; refine (operations_any W0.drew).mono ?_; rintro e w1 ⟨B, rfl, hM, hb1⟩; unfold opsv; have b0 := keepc a0 hb1; have b1 := keepc a1 hb1; have b2 := keepc a2 hb1; have b3 := keepc a3 hb1; have B1 := HB0.out.drew.trans (hb1.mono HB0.out.size); have l1 := (hb1.block (w.heap.size + 1 + 1) (by have := HZ.out; simp; omega)).trans K2.out; have L1 := Lib.hid l1; have HM := Lib.hid hM; have HB1 := Lib.hid B1; have z1 : w.heap.size + 3 ≤ w1.heap.size := (by have := hb1.size; have := HZ.out; simp at *; omega); clear hb1 hM B1 l1)
    | (go_at_call 47; refine (HAP.out w1 B HM.out (HT.out.below HB1.out)).mono ?_; rintro e w2 ⟨rfl, hb2⟩; unfold fenc; have c0 := keepc b0 hb2; have c1 := keepc b1 hb2; have c2 := keepc b2 hb2; have c3 := keepc b3 hb2; have l2 := (hb2.block (w.heap.size + 1 + 1) (by omega)).trans L1.out; have g0 := Lib.cell_of_heap l2 0; have g1 := Lib.cell_of_heap l2 1; have h0 := Lib.frozen_of_heap l2 0; have h1 := Lib.frozen_of_heap l2 1; simp at g0 g1; have L2 := Lib.hid l2; have HB2 := Lib.hid (HB1.out.trans (hb2.mono HB1.out.size)); clear hb2 l2))
 go_wp2_with fail
 have k6 := set2 L2.out (.string (I q.num)) (.string (dn q))
 have m0 := Lib.cell_of_heap k6 0
 have m1 := Lib.cell_of_heap k6 1
 simp at m0 m1
 refine bodyPost_ret (v := .agg #[.string (I q.num), .string (dn q)]) (by simp [results, Tryz.results51, go_sem, m0, m1]) rfl ?_
 exact ⟨rfl, (HB2.out.setCell (p := ⟨w.heap.size + 1 + 1, 0, none⟩) (by simp; omega) _).setCell (p := ⟨w.heap.size + 1 + 1, 1, none⟩) (by simp; omega) _⟩
theorem fSub_any (n1 d1 n2 d2 : ByteArray) (w : World) (s1 : n1.size ≤ 900000) (s2 : d1.size ≤ 900000) (s3 : n2.size ≤ 900000) (s4 : d2.size ≤ 900000) (ht : Tabs w) :
 Calls Tryz.prog 17 #[.agg #[.string n1, .string d1], .agg #[.string n2, .string d2]] w fun e w' => e = .returned (fenc (fv n1 d1 - fv n2 d2)) ∧ Below w.heap.size w w' := by
 have e1 := dd_size d1
 have e2 := dd_size d2
 have AP := fun (W : World) (B : Nat) (hM : MulBox W B) (h : Tabs W) => apply_any 104 (fun a b c d => a * d - c * b) (fun a b c d => b * d) op2_any (enters_of Tryz.func104 (by kernel_rfl) rfl) n1 d1 n2 d2 B W s1 s2 s3 s4 (Int.mul_ne_zero (dd_ne d1) (dd_ne d2)) (Nat.le_trans (diff_size (a := n1) (b := dd d1) (c := n2) (d := dd d2) (k := 900001) (by omega) (by omega) (by omega) (by omega)) (by omega)) (Nat.le_trans (mul_size (k := 900001) (m := 900001) (a := dd d1) (b := dd d2) (by omega) (by omega)) (by omega)) hM h
 rw [show Rat.divInt ((fun a b c d : Int => a * d - c * b) (vl n1) (vl (dd d1)) (vl n2) (vl (dd d2))) ((fun a b c d : Int => b * d) (vl n1) (vl (dd d1)) (vl n2) (vl (dd d2))) = fv n1 d1 - fv n2 d2 from sub_q _ _ _ _ (dd_ne d1) (dd_ne d2)] at AP
 have HAP := Lib.hid AP
 have HT := Lib.hid ht
 generalize hq : fv n1 d1 - fv n2 d2 = q at HAP ⊢
 clear ht AP hq
 obtain ⟨W0, hW0', hB0, hz, k0, k1, k2⟩ := box3 w (.cells #[.string n1, .string d1] 25) (.cells #[.string n2, .string d2] 25) (.cells #[.string ⟨#[]⟩, .string ⟨#[]⟩] 25)
 have hW0 := hW0'.symm
 have a0 := Lib.cell_of_heap k0 0
 have a1 := Lib.cell_of_heap k0 1
 have a2 := Lib.cell_of_heap k1 0
 have a3 := Lib.cell_of_heap k1 1
 simp at a0 a1 a2 a3
 have K2 := Lib.hid k2
 have HB0 := Lib.hid hB0
 have HZ := Lib.hid hz
 clear hW0' k0 k1 k2 hB0 hz
 have hix := idx_ops2
 go_enter Tryz.func17, Tryz.ntmps17
 go_wp2_with fail
 go_region_held3 (fun W => W.cell? ⟨w.heap.size, 0, none⟩ = some (.string n1) ∧ W.cell? ⟨w.heap.size, 1, none⟩ = some (.string d1) ∧ W.cell? ⟨w.heap.size + 1, 0, none⟩ = some (.string n2) ∧ W.cell? ⟨w.heap.size + 1, 1, none⟩ = some (.string d2))
  (refine ⟨?_, ?_, ?_, ?_⟩ <;> first | assumption | (go_simp; done))
  (first
    | (go_at_call 48; refine (operations_any W0.drew).mono ?_; rintro e w1 ⟨B, rfl, hM, hb1⟩; unfold opsv; have b0 := keepc a0 hb1; have b1 := keepc a1 hb1; have b2 := keepc a2 hb1; have b3 := keepc a3 hb1; have B1 := HB0.out.drew.trans (hb1.mono HB0.out.size); have l1 := (hb1.block (w.heap.size + 1 + 1) (by have := HZ.out; simp; omega)).trans K2.out; have L1 := Lib.hid l1; have HM := Lib.hid hM; have HB1 := Lib.hid B1; have z1 : w.heap.size + 3 ≤ w1.heap.size := (by have := hb1.size; have := HZ.out; simp at *; omega); clear hb1 hM B1 l1)
    | (go_at_call 47; refine (HAP.out w1 B HM.out (HT.out.below HB1.out)).mono ?_; rintro e w2 ⟨rfl, hb2⟩; unfold fenc; have c0 := keepc b0 hb2; have c1 := keepc b1 hb2; have c2 := keepc b2 hb2; have c3 := keepc b3 hb2; have l2 := (hb2.block (w.heap.size + 1 + 1) (by omega)).trans L1.out; have g0 := Lib.cell_of_heap l2 0; have g1 := Lib.cell_of_heap l2 1; have h0 := Lib.frozen_of_heap l2 0; have h1 := Lib.frozen_of_heap l2 1; simp at g0 g1; have L2 := Lib.hid l2; have HB2 := Lib.hid (HB1.out.trans (hb2.mono HB1.out.size)); clear hb2 l2))
 go_wp2_with fail
 have k6 := set2 L2.out (.string (I q.num)) (.string (dn q))
 have m0 := Lib.cell_of_heap k6 0
 have m1 := Lib.cell_of_heap k6 1
 simp at m0 m1
 refine bodyPost_ret (v := .agg #[.string (I q.num), .string (dn q)]) (by simp [results, Tryz.results17, go_sem, m0, m1]) rfl ?_
 exact ⟨rfl, (HB2.out.setCell (p := ⟨w.heap.size + 1 + 1, 0, none⟩) (by simp; omega) _).setCell (p := ⟨w.heap.size + 1 + 1, 1, none⟩) (by simp; omega) _⟩
theorem fMul_any (n1 d1 n2 d2 : ByteArray) (w : World) (s1 : n1.size ≤ 900000) (s2 : d1.size ≤ 900000) (s3 : n2.size ≤ 900000) (s4 : d2.size ≤ 900000) (ht : Tabs w) :
 Calls Tryz.prog 12 #[.agg #[.string n1, .string d1], .agg #[.string n2, .string d2]] w fun e w' => e = .returned (fenc (fv n1 d1 * fv n2 d2)) ∧ Below w.heap.size w w' := by
 have e1 := dd_size d1
 have e2 := dd_size d2
 have AP := fun (W : World) (B : Nat) (hM : MulBox W B) (h : Tabs W) => apply_any 105 (fun a b c d => a * c) (fun a b c d => b * d) op3_any (enters_of Tryz.func105 (by kernel_rfl) rfl) n1 d1 n2 d2 B W s1 s2 s3 s4 (Int.mul_ne_zero (dd_ne d1) (dd_ne d2)) (Nat.le_trans (mul_size (k := 900001) (m := 900001) (a := n1) (b := n2) (by omega) (by omega)) (by omega)) (Nat.le_trans (mul_size (k := 900001) (m := 900001) (a := dd d1) (b := dd d2) (by omega) (by omega)) (by omega)) hM h
 rw [show Rat.divInt ((fun a b c d : Int => a * c) (vl n1) (vl (dd d1)) (vl n2) (vl (dd d2))) ((fun a b c d : Int => b * d) (vl n1) (vl (dd d1)) (vl n2) (vl (dd d2))) = fv n1 d1 * fv n2 d2 from mul_q _ _ _ _] at AP
 have HAP := Lib.hid AP
 have HT := Lib.hid ht
 generalize hq : fv n1 d1 * fv n2 d2 = q at HAP ⊢
 clear ht AP hq
 obtain ⟨W0, hW0', hB0, hz, k0, k1, k2⟩ := box3 w (.cells #[.string n1, .string d1] 25) (.cells #[.string n2, .string d2] 25) (.cells #[.string ⟨#[]⟩, .string ⟨#[]⟩] 25)
 have hW0 := hW0'.symm
 have a0 := Lib.cell_of_heap k0 0
 have a1 := Lib.cell_of_heap k0 1
 have a2 := Lib.cell_of_heap k1 0
 have a3 := Lib.cell_of_heap k1 1
 simp at a0 a1 a2 a3
 have K2 := Lib.hid k2
 have HB0 := Lib.hid hB0
 have HZ := Lib.hid hz
 clear hW0' k0 k1 k2 hB0 hz
 have hix := idx_ops3
 go_enter Tryz.func12, Tryz.ntmps12
 go_wp2_with fail
 go_region_held3 (fun W => W.cell? ⟨w.heap.size, 0, none⟩ = some (.string n1) ∧ W.cell? ⟨w.heap.size, 1, none⟩ = some (.string d1) ∧ W.cell? ⟨w.heap.size + 1, 0, none⟩ = some (.string n2) ∧ W.cell? ⟨w.heap.size + 1, 1, none⟩ = some (.string d2))
  (refine ⟨?_, ?_, ?_, ?_⟩ <;> first | assumption | (go_simp; done))
  (first
    | (go_at_call 48; refine (operations_any W0.drew).mono ?_; rintro e w1 ⟨B, rfl, hM, hb1⟩; unfold opsv; have b0 := keepc a0 hb1; have b1 := keepc a1 hb1; have b2 := keepc a2 hb1; have b3 := keepc a3 hb1; have B1 := HB0.out.drew.trans (hb1.mono HB0.out.size); have l1 := (hb1.block (w.heap.size + 1 + 1) (by have := HZ.out; simp; omega)).trans K2.out; have L1 := Lib.hid l1; have HM := Lib.hid hM; have HB1 := Lib.hid B1; have z1 : w.heap.size + 3 ≤ w1.heap.size := (by have := hb1.size; have := HZ.out; simp at *; omega); clear hb1 hM B1 l1)
    | (go_at_call 47; refine (HAP.out w1 B HM.out (HT.out.below HB1.out)).mono ?_; rintro e w2 ⟨rfl, hb2⟩; unfold fenc; have c0 := keepc b0 hb2; have c1 := keepc b1 hb2; have c2 := keepc b2 hb2; have c3 := keepc b3 hb2; have l2 := (hb2.block (w.heap.size + 1 + 1) (by omega)).trans L1.out; have g0 := Lib.cell_of_heap l2 0; have g1 := Lib.cell_of_heap l2 1; have h0 := Lib.frozen_of_heap l2 0; have h1 := Lib.frozen_of_heap l2 1; simp at g0 g1; have L2 := Lib.hid l2; have HB2 := Lib.hid (HB1.out.trans (hb2.mono HB1.out.size)); clear hb2 l2))
 go_wp2_with fail
 have k6 := set2 L2.out (.string (I q.num)) (.string (dn q))
 have m0 := Lib.cell_of_heap k6 0
 have m1 := Lib.cell_of_heap k6 1
 simp at m0 m1
 refine bodyPost_ret (v := .agg #[.string (I q.num), .string (dn q)]) (by simp [results, Tryz.results12, go_sem, m0, m1]) rfl ?_
 exact ⟨rfl, (HB2.out.setCell (p := ⟨w.heap.size + 1 + 1, 0, none⟩) (by simp; omega) _).setCell (p := ⟨w.heap.size + 1 + 1, 1, none⟩) (by simp; omega) _⟩
theorem fQuo_any (n1 d1 n2 d2 : ByteArray) (w : World) (s1 : n1.size ≤ 900000) (s2 : d1.size ≤ 900000) (s3 : n2.size ≤ 900000) (s4 : d2.size ≤ 900000) (hn2 : vl n2 ≠ 0) (ht : Tabs w) :
 Calls Tryz.prog 111 #[.agg #[.string n1, .string d1], .agg #[.string n2, .string d2]] w fun e w' => e = .returned (.tuple #[fenc (fv n1 d1 / fv n2 d2), .int .i64 0]) ∧ Below w.heap.size w w' := by
 have e1 := dd_size d1
 have e2 := dd_size d2
 have AP := fun (W : World) (B : Nat) (hM : MulBox W B) (h : Tabs W) => apply_any 106 (fun a b c d => a * d) (fun a b c d => b * c) op4_any (enters_of Tryz.func106 (by kernel_rfl) rfl) n1 d1 n2 d2 B W s1 s2 s3 s4 (Int.mul_ne_zero (dd_ne d1) hn2) (Nat.le_trans (mul_size (k := 900001) (m := 900001) (a := n1) (b := dd d2) (by omega) (by omega)) (by omega)) (Nat.le_trans (mul_size (k := 900001) (m := 900001) (a := dd d1) (b := n2) (by omega) (by omega)) (by omega)) hM h
 rw [show Rat.divInt ((fun a b c d : Int => a * d) (vl n1) (vl (dd d1)) (vl n2) (vl (dd d2))) ((fun a b c d : Int => b * c) (vl n1) (vl (dd d1)) (vl n2) (vl (dd d2))) = fv n1 d1 / fv n2 d2 from div_q _ _ _ _] at AP
 have HAP := Lib.hid AP
 have HT := Lib.hid ht
 generalize hq : fv n1 d1 / fv n2 d2 = q at HAP ⊢
 have HN := Lib.hid hn2
 clear ht AP hq hn2
 obtain ⟨W0, hW0', hB0, hz, k0, k1, k2⟩ := box3 w (.cells #[.string n1, .string d1] 25) (.cells #[.string n2, .string d2] 25) (.cells #[.string ⟨#[]⟩, .string ⟨#[]⟩] 25)
 have hW0 := hW0'.symm
 have a0 := Lib.cell_of_heap k0 0
 have a1 := Lib.cell_of_heap k0 1
 have a2 := Lib.cell_of_heap k1 0
 have a3 := Lib.cell_of_heap k1 1
 simp at a0 a1 a2 a3
 have K2 := Lib.hid k2
 have HB0 := Lib.hid hB0
 have HZ := Lib.hid hz
 clear hW0' k0 k1 k2 hB0 hz
 have hix := idx_ops4
 go_enter Tryz.func111, Tryz.ntmps111
 go_wp2_with fail
 refine (Compare_any n2 ⟨#[]⟩ W0 (by omega) (by show 0 ≤ _; omega)).mono ?_
 rintro e w0 ⟨rfl, hb0⟩
 rw [show vl (⟨#[]⟩ : ByteArray) = 0 from by rw [zero_eq, vl_I]]
 have hc : (cmpI (vl n2) 0 == 0) = false := beq_eq_false_iff_ne.2 (fun h => HN.out (cmpI_eq.1 h))
 have a0 := keepc a0 hb0
 have a1 := keepc a1 hb0
 have a2 := keepc a2 hb0
 have a3 := keepc a3 hb0
 have K2 := Lib.hid ((hb0.block (w.heap.size + 1 + 1) (by have := HZ.out; simp; omega)).trans K2.out)
 have HB0 := Lib.hid (HB0.out.trans (hb0.mono HB0.out.size))
 have HZ : Hid (w.heap.size + 3 ≤ w0.heap.size) := (by have := hb0.size; have := HZ.out; show _ ≤ _; omega)
 clear hb0
 go_wp2_with fail
 go_region_held3 (fun W => W.cell? ⟨w.heap.size, 0, none⟩ = some (.string n1) ∧ W.cell? ⟨w.heap.size, 1, none⟩ = some (.string d1) ∧ W.cell? ⟨w.heap.size + 1, 0, none⟩ = some (.string n2) ∧ W.cell? ⟨w.heap.size + 1, 1, none⟩ = some (.string d2))
  (refine ⟨?_, ?_, ?_, ?_⟩ <;> first | assumption | (go_simp; done))
  (first
    | (go_at_call 48; refine (operations_any w0.drew).mono ?_; rintro e w1 ⟨B, rfl, hM, hb1⟩; unfold opsv; have b0 := keepc a0 hb1; have b1 := keepc a1 hb1; have b2 := keepc a2 hb1; have b3 := keepc a3 hb1; have B1 := HB0.out.drew.trans (hb1.mono HB0.out.size); have l1 := (hb1.block (w.heap.size + 1 + 1) (by have := HZ.out; simp; omega)).trans K2.out; have L1 := Lib.hid l1; have HM := Lib.hid hM; have HB1 := Lib.hid B1; have z1 : w.heap.size + 3 ≤ w1.heap.size := (by have := hb1.size; have := HZ.out; simp at *; omega); clear hb1 hM B1 l1)
    | (go_at_call 47; refine (HAP.out w1 B HM.out (HT.out.below HB1.out)).mono ?_; rintro e w2 ⟨rfl, hb2⟩; unfold fenc; have c0 := keepc b0 hb2; have c1 := keepc b1 hb2; have c2 := keepc b2 hb2; have c3 := keepc b3 hb2; have l2 := (hb2.block (w.heap.size + 1 + 1) (by omega)).trans L1.out; have g0 := Lib.cell_of_heap l2 0; have g1 := Lib.cell_of_heap l2 1; have h0 := Lib.frozen_of_heap l2 0; have h1 := Lib.frozen_of_heap l2 1; simp at g0 g1; have L2 := Lib.hid l2; have HB2 := Lib.hid (HB1.out.trans (hb2.mono HB1.out.size)); clear hb2 l2))
 go_wp2_with fail
 have k6 := set2 L2.out (.string (I q.num)) (.string (dn q))
 have m0 := Lib.cell_of_heap k6 0
 have m1 := Lib.cell_of_heap k6 1
 simp at m0 m1
 refine bodyPost_ret (v := .tuple #[.agg #[.string (I q.num), .string (dn q)], .int .i64 0]) (by simp [results, Tryz.results111, go_sem, m0, m1]) rfl ?_
 exact ⟨rfl, (HB2.out.setCell (p := ⟨w.heap.size + 1 + 1, 0, none⟩) (by simp; omega) _).setCell (p := ⟨w.heap.size + 1 + 1, 1, none⟩) (by simp; omega) _⟩
end Go.Proofs.YtcnmoobojdopgaaGreatDoor
