/-
  Fractions: apply, and what is exported.
  Fractions: what is exported. (Printed by gen_frac4.py.)
  Fractions: Of, Parts, Check.
  decimal.even and decimal.Round, to the nearest integer.
  Days and dates, plainly.
  The walks of the package date.
  The walks of date.Of, date.Parts.
  The walk of date.Print.
-/
import Derived.Test.YtbkmhmaldljgmaaGreatDoorC12
import Derived.Laws.EntriesVeiled
set_option linter.unusedVariables false
set_option linter.unusedSimpArgs false
set_option maxHeartbeats 16000000
set_option maxRecDepth 100000
namespace Go.Proofs.YtbkmhmaldljgmaaGreatDoor
open Go.RowKit Tr Go.Shelf
def opv (f : Nat) (B : Nat) : Value := .func (.func f) #[] #[.pointer (some ⟨B, 0, none⟩)]
def opsv (B : Nat) : Value := .agg #[opv 216 B, opv 217 B, opv 218 B, opv 219 B]
def OpsPost (w : World) (e : Ending) (w' : World) : Prop := ∃ B, e = .returned (opsv B) ∧ MulBox w' B ∧ Below w.heap.size w w'
theorem operations_any (w : World) : Calls Tryz.prog 165 #[] w (OpsPost w) := by
 obtain ⟨W0, hW0', hB0, hz, k0, k1⟩ := box2 w (.cells #[.nilFunc, .nilFunc, .nilFunc, .nilFunc] 214) (.cells #[.nilFunc] 79)
 have hW0 := hW0'.symm
 have a0 := Lib.cell_of_heap k1 0
 have f0 := Lib.frozen_of_heap k1 0
 simp at a0
 obtain ⟨W1, hW1⟩ : ∃ W1, W0.setCell ⟨w.heap.size + 1, 0, none⟩ (.func (.func 166) #[] #[]) = W1 := ⟨_, rfl⟩
 have k2 : MulBox W1 (w.heap.size + 1) := by rw [← hW1]; exact Boxed.set _ k1
 have k3 : W1.heap[w.heap.size]? = some (.cells #[.nilFunc, .nilFunc, .nilFunc, .nilFunc] 214) := by rw [← hW1]; exact (Below.heap_setCell _ _ _ _ (by simp)).trans k0
 have HB1 : Hid (Below w.heap.size w W1) := by rw [← hW1]; exact hB0.setCell (p := ⟨w.heap.size + 1, 0, none⟩) (by simp) _
 have c0 := Lib.cell_of_heap k3 0
 have c1 := Lib.cell_of_heap k3 1
 have c2 := Lib.cell_of_heap k3 2
 have c3 := Lib.cell_of_heap k3 3
 have g0 := Lib.frozen_of_heap k3 0
 have g1 := Lib.frozen_of_heap k3 1
 have g2 := Lib.frozen_of_heap k3 2
 have g3 := Lib.frozen_of_heap k3 3
 simp at c0 c1 c2 c3
 have K2 := Lib.hid k2
 have K3 := Lib.hid k3
 clear hB0 hz k0 k1 k2 k3 hW0'
 go_enter Tryz.func165, Tryz.ntmps165
 go_wp2_with fail
 have k4 : ((((W1.setCell ⟨w.heap.size, 0, none⟩ (opv 216 (w.heap.size + 1))).setCell ⟨w.heap.size, 1, none⟩ (opv 217 (w.heap.size + 1))).setCell ⟨w.heap.size, 2, none⟩ (opv 218 (w.heap.size + 1))).setCell ⟨w.heap.size, 3, none⟩ (opv 219 (w.heap.size + 1))).heap[w.heap.size]? = some (.cells #[opv 216 (w.heap.size + 1), opv 217 (w.heap.size + 1), opv 218 (w.heap.size + 1), opv 219 (w.heap.size + 1)] 214) := by
  have := K3.out
  simp [World.setCell, Array.getElem?_modify, this]
 have m0 := Lib.cell_of_heap k4 0
 have m1 := Lib.cell_of_heap k4 1
 have m2 := Lib.cell_of_heap k4 2
 have m3 := Lib.cell_of_heap k4 3
 simp [opv] at m0 m1 m2 m3
 refine bodyPost_ret (v := opsv (w.heap.size + 1)) (by simp [results, Tryz.results165, go_sem, m0, m1, m2, m3, opsv, opv]) rfl ?_
 refine ⟨_, rfl, ?_, ?_⟩
 ·refine (Below.heap_setCell _ _ _ _ (by simp)).trans ((Below.heap_setCell _ _ _ _ (by simp)).trans ((Below.heap_setCell _ _ _ _ (by simp)).trans ((Below.heap_setCell _ _ _ _ (by simp)).trans K2.out)))
 ·exact (((HB1.out.setCell (p := ⟨w.heap.size, 0, none⟩) (Nat.le_refl _) _).setCell (p := ⟨w.heap.size, 1, none⟩) (Nat.le_refl _) _).setCell (p := ⟨w.heap.size, 2, none⟩) (Nat.le_refl _) _).setCell (p := ⟨w.heap.size, 3, none⟩) (Nat.le_refl _) _
def OpOk (f : Nat) (X Y : Int → Int → Int → Int → Int) : Prop := ∀ (a b c d : ByteArray) (w : World) (B : Nat), a.size ≤ 1000000 → b.size ≤ 1000000 → c.size ≤ 1000000 → d.size ≤ 1000000 → MulBox w B → Tabs w →
 Calls Tryz.prog f #[.string a, .string b, .string c, .string d, .pointer (some ⟨B, 0, none⟩)] w (OpPost w (X (vl a) (vl b) (vl c) (vl d)) (Y (vl a) (vl b) (vl c) (vl d)))
theorem apply_any (f : Nat) (X Y : Int → Int → Int → Int → Int) (hop : OpOk f X Y) (hen : ∀ args w, (callFunc f args).run Tryz.prog w = .ok (.enter f args) w) (n1 d1 n2 d2 : ByteArray) (B : Nat) (w : World) (s1 : n1.size ≤ 900000) (s2 : d1.size ≤ 900000) (s3 : n2.size ≤ 900000) (s4 : d2.size ≤ 900000)
 (hY : Y (vl n1) (vl (dd d1)) (vl n2) (vl (dd d2)) ≠ 0) (zX : (I (X (vl n1) (vl (dd d1)) (vl n2) (vl (dd d2)))).size ≤ 3000000) (zY : (I (Y (vl n1) (vl (dd d1)) (vl n2) (vl (dd d2)))).size ≤ 3000000) (hB : MulBox w B) (ht : Tabs w) :
 Calls Tryz.prog 164 #[opv f B, .agg #[.string n1, .string d1], .agg #[.string n2, .string d2]] w fun e w' => e = .returned (fenc (Rat.divInt (X (vl n1) (vl (dd d1)) (vl n2) (vl (dd d2))) (Y (vl n1) (vl (dd d1)) (vl n2) (vl (dd d2))))) ∧ Below w.heap.size w w' := by
 have HT := Lib.hid ht
 have HB := Lib.hid hB
 have HOP := Lib.hid hop
 have HY := Lib.hid hY
 have ZX := Lib.hid zX
 have ZY := Lib.hid zY
 clear ht hB hop hY zX zY
 obtain ⟨W0, hW0', hB0, hz, k0, k1, k2⟩ := box3 w (.cells #[.string n1, .string d1] 25) (.cells #[.string n2, .string d2] 25) (.cells #[.string ⟨#[]⟩, .string ⟨#[]⟩] 25)
 have hW0 := hW0'.symm
 have a0 := Lib.cell_of_heap k0 0
 have a1 := Lib.cell_of_heap k0 1
 simp at a0 a1
 clear hW0'
 unfold opv
 go_enter Tryz.func164, Tryz.ntmps164
 go_wp2_with fail
 refine (parts_any n1 d1 _ (by omega)).mono ?_
 rintro e w1 ⟨rfl, hb1⟩
 have B1 := hB0.trans (hb1.mono hB0.size)
 have l1 := (hb1.block (w.heap.size + 1) (by omega)).trans k1
 have l2 := (hb1.block (w.heap.size + 1 + 1) (by omega)).trans k2
 have z1 : w.heap.size + 3 ≤ w1.heap.size := by have := hb1.size; omega
 have c0 := Lib.cell_of_heap l1 0
 have c1 := Lib.cell_of_heap l1 1
 simp at c0 c1
 clear a0 a1 k0 k1 k2 hb1 hB0 hz hW0
 go_wp2_with fail
 refine (parts_any n2 d2 _ (by omega)).mono ?_
 rintro e w2 ⟨rfl, hb2⟩
 have B2 := B1.trans (hb2.mono B1.size)
 have l3 := (hb2.block (w.heap.size + 1 + 1) (by omega)).trans l2
 have z2 : w.heap.size + 3 ≤ w2.heap.size := by have := hb2.size; omega
 clear c0 c1 l1 l2 hb2 B1 z1
 have L3 := Lib.hid l3
 clear l3
 have e1 := dd_size d1
 have e2 := dd_size d2
 go_wp2_with fail
 refine (HOP.out n1 (dd d1) n2 (dd d2) w2 B (by omega) (by omega) (by omega) (by omega) (HB.out.below B2) (HT.out.below B2)).mono ?_
 rintro e w3 ⟨rfl, hb3⟩
 have B3 := B2.trans (hb3.mono B2.size)
 have l4 := (hb3.block (w.heap.size + 1 + 1) (by omega)).trans L3.out
 have z3 : w.heap.size + 3 ≤ w3.heap.size := by have := hb3.size; omega
 have L4 := Lib.hid l4
 clear hb3 B2 L3 z2 l4
 generalize hx : X (vl n1) (vl (dd d1)) (vl n2) (vl (dd d2)) = x at ZX ZY HY ⊢
 generalize hy : Y (vl n1) (vl (dd d1)) (vl n2) (vl (dd d2)) = y at ZX ZY HY ⊢
 have HX := Lib.hid hx
 have HYY := Lib.hid hy
 clear hx hy
 go_wp2_with fail
 refine (made_any (I x) (I y) w3 ZX.out ZY.out (by rw [vl_I]; exact HY.out) (HT.out.below B3)).mono ?_
 rintro e w4 ⟨rfl, hb4⟩
 rw [vl_I, vl_I]
 generalize hq : Rat.divInt x y = q
 have HQ := Lib.hid hq
 clear hq
 unfold fenc
 have B4 := B3.trans (hb4.mono B3.size)
 have l5 := (hb4.block (w.heap.size + 1 + 1) (by omega)).trans L4.out
 have c0 := Lib.cell_of_heap l5 0
 have c1 := Lib.cell_of_heap l5 1
 have f0 := Lib.frozen_of_heap l5 0
 have f1 := Lib.frozen_of_heap l5 1
 simp at c0 c1
 have L5 := Lib.hid l5
 have HB4 := Lib.hid B4
 clear hb4 B3 L4 l5 B4 HOP
 go_wp2_with fail
 have k6 := set2 L5.out (.string (I q.num)) (.string (dn q))
 have m0 := Lib.cell_of_heap k6 0
 have m1 := Lib.cell_of_heap k6 1
 simp at m0 m1
 refine bodyPost_ret (v := .agg #[.string (I q.num), .string (dn q)]) (by simp [results, Tryz.results164, go_sem, m0, m1]) rfl ?_
 exact ⟨by rw [HX.out, HYY.out, HQ.out]; rfl, (HB4.out.setCell (p := ⟨w.heap.size + 1 + 1, 0, none⟩) (by simp; omega) _).setCell (p := ⟨w.heap.size + 1 + 1, 1, none⟩) (by simp; omega) _⟩
theorem two_lt (k : Nat) {x : Nat} (h : x < 10 ^ k + 10 ^ k) : x < 10 ^ (k + 1) := by
 rw [Nat.pow_succ]; omega
theorem prod_lt {a d : ByteArray} {k : Nat} (ha : a.size ≤ k) (hd : d.size ≤ k) : (vl a * vl d).natAbs < 10 ^ (k + k) := by
 rw [Int.natAbs_mul, Nat.pow_add]
 refine Nat.lt_of_lt_of_le (Nat.mul_lt_mul_of_lt_of_le (vl_lt a) (Nat.le_of_lt (vl_lt d)) (Nat.pow_pos (by omega))) ?_
 exact Nat.mul_le_mul (Nat.pow_le_pow_right (by omega) ha) (Nat.pow_le_pow_right (by omega) hd)
theorem sum_size {a b c d : ByteArray} {k : Nat} (ha : a.size ≤ k) (hb : b.size ≤ k) (hc : c.size ≤ k) (hd : d.size ≤ k) : (I (vl a * vl d + vl c * vl b)).size ≤ k + k + 2 := by
 refine I_size_le (k := k + k + 1) (two_lt _ ?_)
 have h1 := prod_lt ha hd
 have h2 := prod_lt hc hb
 omega
theorem diff_size {a b c d : ByteArray} {k : Nat} (ha : a.size ≤ k) (hb : b.size ≤ k) (hc : c.size ≤ k) (hd : d.size ≤ k) : (I (vl a * vl d - vl c * vl b)).size ≤ k + k + 2 := by
 refine I_size_le (k := k + k + 1) (two_lt _ ?_)
 have h1 := prod_lt ha hd
 have h2 := prod_lt hc hb
 omega
theorem add_q (a b c d : Int) (hb : b ≠ 0) (hd : d ≠ 0) : Rat.divInt (a * d + c * b) (b * d) = Rat.divInt a b + Rat.divInt c d := (Rat.divInt_add_divInt _ _ hb hd).symm
theorem sub_q (a b c d : Int) (hb : b ≠ 0) (hd : d ≠ 0) : Rat.divInt (a * d - c * b) (b * d) = Rat.divInt a b - Rat.divInt c d := (Rat.divInt_sub_divInt _ _ hb hd).symm
theorem mul_q (a b c d : Int) : Rat.divInt (a * c) (b * d) = Rat.divInt a b * Rat.divInt c d := (Rat.divInt_mul_divInt _ _).symm
theorem div_q (a b c d : Int) : Rat.divInt (a * d) (b * c) = Rat.divInt a b / Rat.divInt c d := by
 rw [Rat.div_def, Rat.inv_divInt, Rat.divInt_mul_divInt]
theorem idx_ops1 (B : Nat) (w : World) : Sem.run Tryz.prog (Instr.index 214 (Value.agg #[opv 216 B, opv 217 B, opv 218 B, opv 219 B]) (.int .i64 0)) w = .ok (opv 216 B) w := by
 unfold Instr.index; simp [go_sem, asAgg]
theorem idx_ops2 (B : Nat) (w : World) : Sem.run Tryz.prog (Instr.index 214 (Value.agg #[opv 216 B, opv 217 B, opv 218 B, opv 219 B]) (.int .i64 1)) w = .ok (opv 217 B) w := by
 unfold Instr.index; simp [go_sem, asAgg]
theorem idx_ops3 (B : Nat) (w : World) : Sem.run Tryz.prog (Instr.index 214 (Value.agg #[opv 216 B, opv 217 B, opv 218 B, opv 219 B]) (.int .i64 2)) w = .ok (opv 218 B) w := by
 unfold Instr.index; simp [go_sem, asAgg]
theorem idx_ops4 (B : Nat) (w : World) : Sem.run Tryz.prog (Instr.index 214 (Value.agg #[opv 216 B, opv 217 B, opv 218 B, opv 219 B]) (.int .i64 3)) w = .ok (opv 219 B) w := by
 unfold Instr.index; simp [go_sem, asAgg]
theorem fAdd_any (n1 d1 n2 d2 : ByteArray) (w : World) (s1 : n1.size ≤ 900000) (s2 : d1.size ≤ 900000) (s3 : n2.size ≤ 900000) (s4 : d2.size ≤ 900000) (ht : Tabs w) :
 Calls Tryz.prog 129 #[.agg #[.string n1, .string d1], .agg #[.string n2, .string d2]] w fun e w' => e = .returned (fenc (fv n1 d1 + fv n2 d2)) ∧ Below w.heap.size w w' := by
 have e1 := dd_size d1
 have e2 := dd_size d2
 have AP := fun (W : World) (B : Nat) (hM : MulBox W B) (h : Tabs W) => apply_any 216 (fun a b c d => a * d + c * b) (fun a b c d => b * d) op1_any (enters_of Tryz.func216 (by kernel_rfl) rfl) n1 d1 n2 d2 B W s1 s2 s3 s4 (Int.mul_ne_zero (dd_ne d1) (dd_ne d2)) (Nat.le_trans (sum_size (a := n1) (b := dd d1) (c := n2) (d := dd d2) (k := 900001) (by omega) (by omega) (by omega) (by omega)) (by omega)) (Nat.le_trans (mul_size (k := 900001) (m := 900001) (a := dd d1) (b := dd d2) (by omega) (by omega)) (by omega)) hM h
 rw [show Rat.divInt ((fun a b c d : Int => a * d + c * b) (vl n1) (vl (dd d1)) (vl n2) (vl (dd d2))) ((fun a b c d : Int => b * d) (vl n1) (vl (dd d1)) (vl n2) (vl (dd d2))) = fv n1 d1 + fv n2 d2 from add_q _ _ _ _ (dd_ne d1) (dd_ne d2)] at AP
 have HAP := Lib.hid AP
 have HT := Lib.hid ht
 generalize hq : fv n1 d1 + fv n2 d2 = q at HAP ⊢
 clear ht AP hq
 obtain ⟨W0, hW0', hB0, hz, k0, k1, k2⟩ := box3 w (.cells #[.string n1, .string d1] 25) (.cells #[.string n2, .string d2] 25) (.cells #[.string ⟨#[]⟩, .string ⟨#[]⟩] 25)
 have hW0 := hW0'.symm
 have a0 := Lib.cell_of_heap k0 0
 have a1 := Lib.cell_of_heap k0 1
 have a2 := Lib.cell_of_heap k1 0
 have a3 := Lib.cell_of_heap k1 1
 simp at a0 a1 a2 a3
 have K2 := Lib.hid k2
 have HB0 := Lib.hid hB0
 have HZ := Lib.hid hz
 clear hW0' k0 k1 k2 hB0 hz
 have hix := idx_ops1
 go_enter Tryz.func129, Tryz.ntmps129
 go_wp2_with fail
 go_region_held3 (fun W => W.cell? ⟨w.heap.size, 0, none⟩ = some (.string n1) ∧ W.cell? ⟨w.heap.size, 1, none⟩ = some (.string d1) ∧ W.cell? ⟨w.heap.size + 1, 0, none⟩ = some (.string n2) ∧ W.cell? ⟨w.heap.size + 1, 1, none⟩ = some (.string d2))
  (refine ⟨?_, ?_, ?_, ?_⟩ <;> first | assumption | (go_simp; done))
  (first
    | (go_at_call 165; refine (operations_any W0.drew).mono ?_; rintro e w1 ⟨B, rfl, hM, hb1⟩; unfold opsv; have b0 := keepc a0 hb1; have b1 := keepc a1 hb1; have b2 := keepc a2 hb1; have b3 := keepc a3 hb1; have B1 := HB0.out.drew.trans (hb1.mono HB0.out.size); have l1 := (hb1.block (w.heap.size + 1 + 1) (by have := HZ.out; simp; omega)).trans K2.out; have L1 := Lib.hid l1; have HM := Lib.hid hM; have HB1 := Lib.hid B1; have z1 : w.heap.size + 3 ≤ w1.heap.size := (by have := hb1.size; have := HZ.out; simp at *; omega); clear hb1 hM B1 l1)
    | (go_at_call 164; refine (HAP.out w1 B HM.out (HT.out.below HB1.out)).mono ?_; rintro e w2 ⟨rfl, hb2⟩; unfold fenc; have c0 := keepc b0 hb2; have c1 := keepc b1 hb2; have c2 := keepc b2 hb2; have c3 := keepc b3 hb2; have l2 := (hb2.block (w.heap.size + 1 + 1) (by omega)).trans L1.out; have g0 := Lib.cell_of_heap l2 0; have g1 := Lib.cell_of_heap l2 1; have h0 := Lib.frozen_of_heap l2 0; have h1 := Lib.frozen_of_heap l2 1; simp at g0 g1; have L2 := Lib.hid l2; have HB2 := Lib.hid (HB1.out.trans (hb2.mono HB1.out.size)); clear hb2 l2))
 go_wp2_with fail
 have k6 := set2 L2.out (.string (I q.num)) (.string (dn q))
 have m0 := Lib.cell_of_heap k6 0
 have m1 := Lib.cell_of_heap k6 1
 simp at m0 m1
 refine bodyPost_ret (v := .agg #[.string (I q.num), .string (dn q)]) (by simp [results, Tryz.results129, go_sem, m0, m1]) rfl ?_
 exact ⟨rfl, (HB2.out.setCell (p := ⟨w.heap.size + 1 + 1, 0, none⟩) (by simp; omega) _).setCell (p := ⟨w.heap.size + 1 + 1, 1, none⟩) (by simp; omega) _⟩
theorem fSub_any (n1 d1 n2 d2 : ByteArray) (w : World) (s1 : n1.size ≤ 900000) (s2 : d1.size ≤ 900000) (s3 : n2.size ≤ 900000) (s4 : d2.size ≤ 900000) (ht : Tabs w) :
 Calls Tryz.prog 226 #[.agg #[.string n1, .string d1], .agg #[.string n2, .string d2]] w fun e w' => e = .returned (fenc (fv n1 d1 - fv n2 d2)) ∧ Below w.heap.size w w' := by
 have e1 := dd_size d1
 have e2 := dd_size d2
 have AP := fun (W : World) (B : Nat) (hM : MulBox W B) (h : Tabs W) => apply_any 217 (fun a b c d => a * d - c * b) (fun a b c d => b * d) op2_any (enters_of Tryz.func217 (by kernel_rfl) rfl) n1 d1 n2 d2 B W s1 s2 s3 s4 (Int.mul_ne_zero (dd_ne d1) (dd_ne d2)) (Nat.le_trans (diff_size (a := n1) (b := dd d1) (c := n2) (d := dd d2) (k := 900001) (by omega) (by omega) (by omega) (by omega)) (by omega)) (Nat.le_trans (mul_size (k := 900001) (m := 900001) (a := dd d1) (b := dd d2) (by omega) (by omega)) (by omega)) hM h
 rw [show Rat.divInt ((fun a b c d : Int => a * d - c * b) (vl n1) (vl (dd d1)) (vl n2) (vl (dd d2))) ((fun a b c d : Int => b * d) (vl n1) (vl (dd d1)) (vl n2) (vl (dd d2))) = fv n1 d1 - fv n2 d2 from sub_q _ _ _ _ (dd_ne d1) (dd_ne d2)] at AP
 have HAP := Lib.hid AP
 have HT := Lib.hid ht
 generalize hq : fv n1 d1 - fv n2 d2 = q at HAP ⊢
 clear ht AP hq
 obtain ⟨W0, hW0', hB0, hz, k0, k1, k2⟩ := box3 w (.cells #[.string n1, .string d1] 25) (.cells #[.string n2, .string d2] 25) (.cells #[.string ⟨#[]⟩, .string ⟨#[]⟩] 25)
 have hW0 := hW0'.symm
 have a0 := Lib.cell_of_heap k0 0
 have a1 := Lib.cell_of_heap k0 1
 have a2 := Lib.cell_of_heap k1 0
 have a3 := Lib.cell_of_heap k1 1
 simp at a0 a1 a2 a3
 have K2 := Lib.hid k2
 have HB0 := Lib.hid hB0
 have HZ := Lib.hid hz
 clear hW0' k0 k1 k2 hB0 hz
 have hix := idx_ops2
 go_enter Tryz.func226, Tryz.ntmps226
 go_wp2_with fail
 go_region_held3 (fun W => W.cell? ⟨w.heap.size, 0, none⟩ = some (.string n1) ∧ W.cell? ⟨w.heap.size, 1, none⟩ = some (.string d1) ∧ W.cell? ⟨w.heap.size + 1, 0, none⟩ = some (.string n2) ∧ W.cell? ⟨w.heap.size + 1, 1, none⟩ = some (.string d2))
  (refine ⟨?_, ?_, ?_, ?_⟩ <;> first | assumption | (go_simp; done))
  (first
    | (go_at_call 165; refine (operations_any W0.drew).mono ?_; rintro e w1 ⟨B, rfl, hM, hb1⟩; unfold opsv; have b0 := keepc a0 hb1; have b1 := keepc a1 hb1; have b2 := keepc a2 hb1; have b3 := keepc a3 hb1; have B1 := HB0.out.drew.trans (hb1.mono HB0.out.size); have l1 := (hb1.block (w.heap.size + 1 + 1) (by have := HZ.out; simp; omega)).trans K2.out; have L1 := Lib.hid l1; have HM := Lib.hid hM; have HB1 := Lib.hid B1; have z1 : w.heap.size + 3 ≤ w1.heap.size := (by have := hb1.size; have := HZ.out; simp at *; omega); clear hb1 hM B1 l1)
    | (go_at_call 164; refine (HAP.out w1 B HM.out (HT.out.below HB1.out)).mono ?_; rintro e w2 ⟨rfl, hb2⟩; unfold fenc; have c0 := keepc b0 hb2; have c1 := keepc b1 hb2; have c2 := keepc b2 hb2; have c3 := keepc b3 hb2; have l2 := (hb2.block (w.heap.size + 1 + 1) (by omega)).trans L1.out; have g0 := Lib.cell_of_heap l2 0; have g1 := Lib.cell_of_heap l2 1; have h0 := Lib.frozen_of_heap l2 0; have h1 := Lib.frozen_of_heap l2 1; simp at g0 g1; have L2 := Lib.hid l2; have HB2 := Lib.hid (HB1.out.trans (hb2.mono HB1.out.size)); clear hb2 l2))
 go_wp2_with fail
 have k6 := set2 L2.out (.string (I q.num)) (.string (dn q))
 have m0 := Lib.cell_of_heap k6 0
 have m1 := Lib.cell_of_heap k6 1
 simp at m0 m1
 refine bodyPost_ret (v := .agg #[.string (I q.num), .string (dn q)]) (by simp [results, Tryz.results226, go_sem, m0, m1]) rfl ?_
 exact ⟨rfl, (HB2.out.setCell (p := ⟨w.heap.size + 1 + 1, 0, none⟩) (by simp; omega) _).setCell (p := ⟨w.heap.size + 1 + 1, 1, none⟩) (by simp; omega) _⟩
theorem fMul_any (n1 d1 n2 d2 : ByteArray) (w : World) (s1 : n1.size ≤ 900000) (s2 : d1.size ≤ 900000) (s3 : n2.size ≤ 900000) (s4 : d2.size ≤ 900000) (ht : Tabs w) :
 Calls Tryz.prog 116 #[.agg #[.string n1, .string d1], .agg #[.string n2, .string d2]] w fun e w' => e = .returned (fenc (fv n1 d1 * fv n2 d2)) ∧ Below w.heap.size w w' := by
 have e1 := dd_size d1
 have e2 := dd_size d2
 have AP := fun (W : World) (B : Nat) (hM : MulBox W B) (h : Tabs W) => apply_any 218 (fun a b c d => a * c) (fun a b c d => b * d) op3_any (enters_of Tryz.func218 (by kernel_rfl) rfl) n1 d1 n2 d2 B W s1 s2 s3 s4 (Int.mul_ne_zero (dd_ne d1) (dd_ne d2)) (Nat.le_trans (mul_size (k := 900001) (m := 900001) (a := n1) (b := n2) (by omega) (by omega)) (by omega)) (Nat.le_trans (mul_size (k := 900001) (m := 900001) (a := dd d1) (b := dd d2) (by omega) (by omega)) (by omega)) hM h
 rw [show Rat.divInt ((fun a b c d : Int => a * c) (vl n1) (vl (dd d1)) (vl n2) (vl (dd d2))) ((fun a b c d : Int => b * d) (vl n1) (vl (dd d1)) (vl n2) (vl (dd d2))) = fv n1 d1 * fv n2 d2 from mul_q _ _ _ _] at AP
 have HAP := Lib.hid AP
 have HT := Lib.hid ht
 generalize hq : fv n1 d1 * fv n2 d2 = q at HAP ⊢
 clear ht AP hq
 obtain ⟨W0, hW0', hB0, hz, k0, k1, k2⟩ := box3 w (.cells #[.string n1, .string d1] 25) (.cells #[.string n2, .string d2] 25) (.cells #[.string ⟨#[]⟩, .string ⟨#[]⟩] 25)
 have hW0 := hW0'.symm
 have a0 := Lib.cell_of_heap k0 0
 have a1 := Lib.cell_of_heap k0 1
 have a2 := Lib.cell_of_heap k1 0
 have a3 := Lib.cell_of_heap k1 1
 simp at a0 a1 a2 a3
 have K2 := Lib.hid k2
 have HB0 := Lib.hid hB0
 have HZ := Lib.hid hz
 clear hW0' k0 k1 k2 hB0 hz
 have hix := idx_ops3
 go_enter Tryz.func116, Tryz.ntmps116
 go_wp2_with fail
 go_region_held3 (fun W => W.cell? ⟨w.heap.size, 0, none⟩ = some (.string n1) ∧ W.cell? ⟨w.heap.size, 1, none⟩ = some (.string d1) ∧ W.cell? ⟨w.heap.size + 1, 0, none⟩ = some (.string n2) ∧ W.cell? ⟨w.heap.size + 1, 1, none⟩ = some (.string d2))
  (refine ⟨?_, ?_, ?_, ?_⟩ <;> first | assumption | (go_simp; done))
  (first
    | (go_at_call 165; refine (operations_any W0.drew).mono ?_; rintro e w1 ⟨B, rfl, hM, hb1⟩; unfold opsv; have b0 := keepc a0 hb1; have b1 := keepc a1 hb1; have b2 := keepc a2 hb1; have b3 := keepc a3 hb1; have B1 := HB0.out.drew.trans (hb1.mono HB0.out.size); have l1 := (hb1.block (w.heap.size + 1 + 1) (by have := HZ.out; simp; omega)).trans K2.out; have L1 := Lib.hid l1; have HM := Lib.hid hM; have HB1 := Lib.hid B1; have z1 : w.heap.size + 3 ≤ w1.heap.size := (by have := hb1.size; have := HZ.out; simp at *; omega); clear hb1 hM B1 l1)
    | (go_at_call 164; refine (HAP.out w1 B HM.out (HT.out.below HB1.out)).mono ?_; rintro e w2 ⟨rfl, hb2⟩; unfold fenc; have c0 := keepc b0 hb2; have c1 := keepc b1 hb2; have c2 := keepc b2 hb2; have c3 := keepc b3 hb2; have l2 := (hb2.block (w.heap.size + 1 + 1) (by omega)).trans L1.out; have g0 := Lib.cell_of_heap l2 0; have g1 := Lib.cell_of_heap l2 1; have h0 := Lib.frozen_of_heap l2 0; have h1 := Lib.frozen_of_heap l2 1; simp at g0 g1; have L2 := Lib.hid l2; have HB2 := Lib.hid (HB1.out.trans (hb2.mono HB1.out.size)); clear hb2 l2))
 go_wp2_with fail
 have k6 := set2 L2.out (.string (I q.num)) (.string (dn q))
 have m0 := Lib.cell_of_heap k6 0
 have m1 := Lib.cell_of_heap k6 1
 simp at m0 m1
 refine bodyPost_ret (v := .agg #[.string (I q.num), .string (dn q)]) (by simp [results, Tryz.results116, go_sem, m0, m1]) rfl ?_
 exact ⟨rfl, (HB2.out.setCell (p := ⟨w.heap.size + 1 + 1, 0, none⟩) (by simp; omega) _).setCell (p := ⟨w.heap.size + 1 + 1, 1, none⟩) (by simp; omega) _⟩
theorem fQuo_any (n1 d1 n2 d2 : ByteArray) (w : World) (s1 : n1.size ≤ 900000) (s2 : d1.size ≤ 900000) (s3 : n2.size ≤ 900000) (s4 : d2.size ≤ 900000) (hn2 : vl n2 ≠ 0) (ht : Tabs w) :
 Calls Tryz.prog 227 #[.agg #[.string n1, .string d1], .agg #[.string n2, .string d2]] w fun e w' => e = .returned (.tuple #[fenc (fv n1 d1 / fv n2 d2), .int .i64 0]) ∧ Below w.heap.size w w' := by
 have e1 := dd_size d1
 have e2 := dd_size d2
 have AP := fun (W : World) (B : Nat) (hM : MulBox W B) (h : Tabs W) => apply_any 219 (fun a b c d => a * d) (fun a b c d => b * c) op4_any (enters_of Tryz.func219 (by kernel_rfl) rfl) n1 d1 n2 d2 B W s1 s2 s3 s4 (Int.mul_ne_zero (dd_ne d1) hn2) (Nat.le_trans (mul_size (k := 900001) (m := 900001) (a := n1) (b := dd d2) (by omega) (by omega)) (by omega)) (Nat.le_trans (mul_size (k := 900001) (m := 900001) (a := dd d1) (b := n2) (by omega) (by omega)) (by omega)) hM h
 rw [show Rat.divInt ((fun a b c d : Int => a * d) (vl n1) (vl (dd d1)) (vl n2) (vl (dd d2))) ((fun a b c d : Int => b * c) (vl n1) (vl (dd d1)) (vl n2) (vl (dd d2))) = fv n1 d1 / fv n2 d2 from div_q _ _ _ _] at AP
 have HAP := Lib.hid AP
 have HT := Lib.hid ht
 generalize hq : fv n1 d1 / fv n2 d2 = q at HAP ⊢
 have HN := Lib.hid hn2
 clear ht AP hq hn2
 obtain ⟨W0, hW0', hB0, hz, k0, k1, k2⟩ := box3 w (.cells #[.string n1, .string d1] 25) (.cells #[.string n2, .string d2] 25) (.cells #[.string ⟨#[]⟩, .string ⟨#[]⟩] 25)
 have hW0 := hW0'.symm
 have a0 := Lib.cell_of_heap k0 0
 have a1 := Lib.cell_of_heap k0 1
 have a2 := Lib.cell_of_heap k1 0
 have a3 := Lib.cell_of_heap k1 1
 simp at a0 a1 a2 a3
 have K2 := Lib.hid k2
 have HB0 := Lib.hid hB0
 have HZ := Lib.hid hz
 clear hW0' k0 k1 k2 hB0 hz
 have hix := idx_ops4
 go_enter Tryz.func227, Tryz.ntmps227
 go_wp2_with fail
 refine (Compare_any n2 ⟨#[]⟩ W0 (by omega) (by show 0 ≤ _; omega)).mono ?_
 rintro e w0 ⟨rfl, hb0⟩
 rw [show vl (⟨#[]⟩ : ByteArray) = 0 from by rw [zero_eq, vl_I]]
 have hc : (cmpI (vl n2) 0 == 0) = false := beq_eq_false_iff_ne.2 (fun h => HN.out (cmpI_eq.1 h))
 have a0 := keepc a0 hb0
 have a1 := keepc a1 hb0
 have a2 := keepc a2 hb0
 have a3 := keepc a3 hb0
 have K2 := Lib.hid ((hb0.block (w.heap.size + 1 + 1) (by have := HZ.out; simp; omega)).trans K2.out)
 have HB0 := Lib.hid (HB0.out.trans (hb0.mono HB0.out.size))
 have HZ : Hid (w.heap.size + 3 ≤ w0.heap.size) := (by have := hb0.size; have := HZ.out; show _ ≤ _; omega)
 clear hb0
 go_wp2_with fail
 go_region_held3 (fun W => W.cell? ⟨w.heap.size, 0, none⟩ = some (.string n1) ∧ W.cell? ⟨w.heap.size, 1, none⟩ = some (.string d1) ∧ W.cell? ⟨w.heap.size + 1, 0, none⟩ = some (.string n2) ∧ W.cell? ⟨w.heap.size + 1, 1, none⟩ = some (.string d2))
  (refine ⟨?_, ?_, ?_, ?_⟩ <;> first | assumption | (go_simp; done))
  (first
    | (go_at_call 165; refine (operations_any w0.drew).mono ?_; rintro e w1 ⟨B, rfl, hM, hb1⟩; unfold opsv; have b0 := keepc a0 hb1; have b1 := keepc a1 hb1; have b2 := keepc a2 hb1; have b3 := keepc a3 hb1; have B1 := HB0.out.drew.trans (hb1.mono HB0.out.size); have l1 := (hb1.block (w.heap.size + 1 + 1) (by have := HZ.out; simp; omega)).trans K2.out; have L1 := Lib.hid l1; have HM := Lib.hid hM; have HB1 := Lib.hid B1; have z1 : w.heap.size + 3 ≤ w1.heap.size := (by have := hb1.size; have := HZ.out; simp at *; omega); clear hb1 hM B1 l1)
    | (go_at_call 164; refine (HAP.out w1 B HM.out (HT.out.below HB1.out)).mono ?_; rintro e w2 ⟨rfl, hb2⟩; unfold fenc; have c0 := keepc b0 hb2; have c1 := keepc b1 hb2; have c2 := keepc b2 hb2; have c3 := keepc b3 hb2; have l2 := (hb2.block (w.heap.size + 1 + 1) (by omega)).trans L1.out; have g0 := Lib.cell_of_heap l2 0; have g1 := Lib.cell_of_heap l2 1; have h0 := Lib.frozen_of_heap l2 0; have h1 := Lib.frozen_of_heap l2 1; simp at g0 g1; have L2 := Lib.hid l2; have HB2 := Lib.hid (HB1.out.trans (hb2.mono HB1.out.size)); clear hb2 l2))
 go_wp2_with fail
 have k6 := set2 L2.out (.string (I q.num)) (.string (dn q))
 have m0 := Lib.cell_of_heap k6 0
 have m1 := Lib.cell_of_heap k6 1
 simp at m0 m1
 refine bodyPost_ret (v := .tuple #[.agg #[.string (I q.num), .string (dn q)], .int .i64 0]) (by simp [results, Tryz.results227, go_sem, m0, m1]) rfl ?_
 exact ⟨rfl, (HB2.out.setCell (p := ⟨w.heap.size + 1 + 1, 0, none⟩) (by simp; omega) _).setCell (p := ⟨w.heap.size + 1 + 1, 1, none⟩) (by simp; omega) _⟩
theorem divInt_one' (a : Int) : Rat.divInt a 1 = (a : Rat) := Rat.num_divInt_den (a : Rat)
theorem fOf_any (a : ByteArray) (w : World) (s1 : a.size ≤ 3000000) (ht : Tabs w) :
 Calls Tryz.prog 117 #[.string a] w fun e w' => e = .returned (fenc (vl a : Rat)) ∧ Below w.heap.size w w' := by
 have HB := Lib.hid ((Below.refl _ w).alloc (Nat.le_refl _) (Obj.cells #[.string ⟨#[]⟩, .string ⟨#[]⟩] 25))
 have HR := Lib.hid (made_any a one1 _ s1 (by show 1 ≤ _; omega) (by rw [one1_eq, vl_I]; omega) (ht.below HB.out))
 rw [one1_eq, vl_I, divInt_one', ← one1_eq] at HR
 obtain ⟨W0, hW0⟩ : ∃ W0, w.alloc (Obj.cells #[.string ⟨#[]⟩, .string ⟨#[]⟩] 25) = W0 := ⟨_, rfl⟩
 have hk : W0.heap[w.heap.size]? = some (Obj.cells #[.string ⟨#[]⟩, .string ⟨#[]⟩] 25) := by rw [← hW0]; exact heap_alloc_new w _
 have hs : W0.heap.size = w.heap.size + 1 := by rw [← hW0]; simp
 rw [hW0] at HB HR
 generalize hq : (vl a : Rat) = q at HR ⊢
 clear ht hq
 unfold one1 at HR
 go_enter Tryz.func117, Tryz.ntmps117
 go_wp2_with fail
 refine HR.out.mono ?_
 rintro e w1 ⟨rfl, B1⟩
 unfold fenc
 clear HR
 have k1 := (B1.block w.heap.size (by omega)).trans hk
 have a0 := Lib.cell_of_heap k1 0
 have a1 := Lib.cell_of_heap k1 1
 simp at a0 a1
 have f0 := Lib.frozen_of_heap k1 0
 have f1 := Lib.frozen_of_heap k1 1
 have HB1 := Lib.hid (HB.out.trans (B1.mono HB.out.size))
 have K1 := Lib.hid k1
 clear B1 HB hk hs k1
 go_wp2_with fail
 have k2 := set2 K1.out (.string (I q.num)) (.string (dn q))
 have m0 := Lib.cell_of_heap k2 0
 have m1 := Lib.cell_of_heap k2 1
 simp at m0 m1
 refine bodyPost_ret (v := .agg #[.string (I q.num), .string (dn q)]) (by simp [results, Tryz.results117, go_sem, m0, m1]) rfl ?_
 exact ⟨rfl, (HB1.out.setCell (p := ⟨w.heap.size, 0, none⟩) (Nat.le_refl _) _).setCell (p := ⟨w.heap.size, 1, none⟩) (Nat.le_refl _) _⟩
theorem fParts_any (n d : ByteArray) (w : World) (s1 : n.size ≤ 2000000) (s2 : d.size ≤ 2000000) (ht : Tabs w) :
 Calls Tryz.prog 160 #[.agg #[.string n, .string d]] w fun e w' => e = .returned (.tuple #[.string (I (fv n d).num), .string (I ((fv n d).den : Int))]) ∧ Below w.heap.size w w' := by
 have HB := Lib.hid ((Below.refl _ w).alloc (Nat.le_refl _) (Obj.cells #[.string n, .string d] 25))
 have HP := Lib.hid (parts_any n d (w.alloc (Obj.cells #[.string n, .string d] 25)) (by omega))
 obtain ⟨W0, hW0⟩ : ∃ W0, w.alloc (Obj.cells #[.string n, .string d] 25) = W0 := ⟨_, rfl⟩
 have hk : W0.heap[w.heap.size]? = some (Obj.cells #[.string n, .string d] 25) := by rw [← hW0]; exact heap_alloc_new w _
 rw [hW0] at HB HP
 have b0 := Lib.cell_of_heap hk 0
 have b1 := Lib.cell_of_heap hk 1
 simp at b0 b1
 have HT := Lib.hid ht
 have hdd := dd_size d
 clear ht
 go_enter Tryz.func160, Tryz.ntmps160
 go_wp2_with fail
 refine HP.out.mono ?_
 rintro e w1 ⟨rfl, B1⟩
 have HB1 := Lib.hid (HB.out.trans (B1.mono HB.out.size))
 clear B1 HB hk b0 b1 HP
 go_wp2_with fail
 refine (reduced_any n (dd d) w1 (by omega) (by omega) (dd_ne d) (HT.out.below HB1.out)).mono ?_
 rintro e w2 ⟨rfl, B2⟩
 go_wp2_with fail
 go_ret2
 exact ⟨rfl, HB1.out.trans (B2.mono HB1.out.size)⟩
def CanQ (n d : ByteArray) : Prop := n = I (fv n d).num ∧ d = dn (fv n d)
theorem fCheck_yes (n d : ByteArray) (w : World) (s1 : n.size ≤ 2000000) (s2 : d.size ≤ 2000000) (hc : CanQ n d) (ht : Tabs w) :
 Calls Tryz.prog 79 #[.agg #[.string n, .string d]] w fun e w' => e = .returned (.int .i64 0) ∧ Below w.heap.size w w' := by
 have HB := Lib.hid ((Below.refl _ w).alloc (Nat.le_refl _) (Obj.cells #[.string n, .string d] 25))
 obtain ⟨W0, hW0⟩ : ∃ W0, w.alloc (Obj.cells #[.string n, .string d] 25) = W0 := ⟨_, rfl⟩
 have hk : W0.heap[w.heap.size]? = some (Obj.cells #[.string n, .string d] 25) := by rw [← hW0]; exact heap_alloc_new w _
 rw [hW0] at HB
 have b0 := Lib.cell_of_heap hk 0
 have b1 := Lib.cell_of_heap hk 1
 simp at b0 b1
 have HT := Lib.hid ht
 have HC := Lib.hid hc
 have hdd := dd_size d
 clear ht hk hc
 go_enter Tryz.func79, Tryz.ntmps79
 go_wp2_with fail
 go_region_held3 (fun W => W.cell? ⟨w.heap.size, 0, none⟩ = some (.string n) ∧ W.cell? ⟨w.heap.size, 1, none⟩ = some (.string d))
  (refine ⟨?_, ?_⟩ <;> first | assumption | (go_simp; done))
  (first
    | (go_at_call 136; refine (parts_any n d W0.drew (by omega)).mono ?_; rintro e w1 ⟨rfl, hb1⟩; have c0 := keepc b0 hb1; have c1 := keepc b1 hb1; have HB1 := Lib.hid (HB.out.drew.trans (hb1.mono HB.out.size)); clear hb1)
    | (go_at_call 135; refine (made_any n (dd d) w1 (by omega) (by omega) (dd_ne d) (HT.out.below HB1.out)).mono ?_; rintro e w2 ⟨rfl, hb2⟩; rw [show Rat.divInt (vl n) (vl (dd d)) = fv n d from rfl]; unfold fenc; rw [← HC.out.1, ← HC.out.2]; have d0 := keepc c0 hb2; have d1 := keepc c1 hb2; have HB2 := Lib.hid (HB1.out.trans (hb2.mono HB1.out.size)); clear hb2))
 go_wp2_with fail
 go_ret
 exact ⟨rfl, HB2.out⟩
theorem fCheck_no (n d : ByteArray) (w : World) (s1 : n.size ≤ 2000000) (s2 : d.size ≤ 2000000) (hc : ¬ CanQ n d) (ht : Tabs w) :
 Calls Tryz.prog 79 #[.agg #[.string n, .string d]] w fun e w' => e = .returned (.int .i64 1) ∧ Below w.heap.size w w' := by
 have HB := Lib.hid ((Below.refl _ w).alloc (Nat.le_refl _) (Obj.cells #[.string n, .string d] 25))
 obtain ⟨W0, hW0⟩ : ∃ W0, w.alloc (Obj.cells #[.string n, .string d] 25) = W0 := ⟨_, rfl⟩
 have hk : W0.heap[w.heap.size]? = some (Obj.cells #[.string n, .string d] 25) := by rw [← hW0]; exact heap_alloc_new w _
 rw [hW0] at HB
 have b0 := Lib.cell_of_heap hk 0
 have b1 := Lib.cell_of_heap hk 1
 simp at b0 b1
 have HT := Lib.hid ht
 have HC : Hid (¬ (n = I (fv n d).num ∧ d = dn (fv n d))) := hc
 have hdd := dd_size d
 clear ht hk hc
 by_cases hn : n = I (fv n d).num
 ·have hd' : (d.toList == (dn (fv n d)).toList) = false := neq_toList (fun e => HC.out ⟨hn, e⟩)
  have hn' : (n.toList == (I (fv n d).num).toList) = true := by rw [← hn]; simp
  clear hn HC
  go_enter Tryz.func79, Tryz.ntmps79
  go_wp2_with fail
  go_region_held3 (fun W => W.cell? ⟨w.heap.size, 0, none⟩ = some (.string n) ∧ W.cell? ⟨w.heap.size, 1, none⟩ = some (.string d))
   (refine ⟨?_, ?_⟩ <;> first | assumption | (go_simp; done))
   (first
     | (go_at_call 136; refine (parts_any n d W0.drew (by omega)).mono ?_; rintro e w1 ⟨rfl, hb1⟩; have c0 := keepc b0 hb1; have c1 := keepc b1 hb1; have HB1 := Lib.hid (HB.out.drew.trans (hb1.mono HB.out.size)); clear hb1)
     | (go_at_call 135; refine (made_any n (dd d) w1 (by omega) (by omega) (dd_ne d) (HT.out.below HB1.out)).mono ?_; rintro e w2 ⟨rfl, hb2⟩; rw [show Rat.divInt (vl n) (vl (dd d)) = fv n d from rfl]; unfold fenc; have d0 := keepc c0 hb2; have d1 := keepc c1 hb2; have HB2 := Lib.hid (HB1.out.trans (hb2.mono HB1.out.size)); clear hb2))
  go_wp2_with fail
  go_ret
  exact ⟨rfl, HB2.out⟩
 ·have hn' : (n.toList == (I (fv n d).num).toList) = false := neq_toList hn
  clear hn HC
  by_cases hd : d = dn (fv n d)
  ·have hd' : (d.toList == (dn (fv n d)).toList) = true := by rw [← hd]; simp
   clear hd
   go_enter Tryz.func79, Tryz.ntmps79
   go_wp2_with fail
   go_region_held3 (fun W => W.cell? ⟨w.heap.size, 0, none⟩ = some (.string n) ∧ W.cell? ⟨w.heap.size, 1, none⟩ = some (.string d))
    (refine ⟨?_, ?_⟩ <;> first | assumption | (go_simp; done))
    (first
      | (go_at_call 136; refine (parts_any n d W0.drew (by omega)).mono ?_; rintro e w1 ⟨rfl, hb1⟩; have c0 := keepc b0 hb1; have c1 := keepc b1 hb1; have HB1 := Lib.hid (HB.out.drew.trans (hb1.mono HB.out.size)); clear hb1)
      | (go_at_call 135; refine (made_any n (dd d) w1 (by omega) (by omega) (dd_ne d) (HT.out.below HB1.out)).mono ?_; rintro e w2 ⟨rfl, hb2⟩; rw [show Rat.divInt (vl n) (vl (dd d)) = fv n d from rfl]; unfold fenc; have d0 := keepc c0 hb2; have d1 := keepc c1 hb2; have HB2 := Lib.hid (HB1.out.trans (hb2.mono HB1.out.size)); clear hb2))
   go_wp2_with fail
   go_ret
   exact ⟨rfl, HB2.out⟩
  ·have hd' : (d.toList == (dn (fv n d)).toList) = false := neq_toList hd
   clear hd
   go_enter Tryz.func79, Tryz.ntmps79
   go_wp2_with fail
   go_region_held3 (fun W => W.cell? ⟨w.heap.size, 0, none⟩ = some (.string n) ∧ W.cell? ⟨w.heap.size, 1, none⟩ = some (.string d))
    (refine ⟨?_, ?_⟩ <;> first | assumption | (go_simp; done))
    (first
      | (go_at_call 136; refine (parts_any n d W0.drew (by omega)).mono ?_; rintro e w1 ⟨rfl, hb1⟩; have c0 := keepc b0 hb1; have c1 := keepc b1 hb1; have HB1 := Lib.hid (HB.out.drew.trans (hb1.mono HB.out.size)); clear hb1)
      | (go_at_call 135; refine (made_any n (dd d) w1 (by omega) (by omega) (dd_ne d) (HT.out.below HB1.out)).mono ?_; rintro e w2 ⟨rfl, hb2⟩; rw [show Rat.divInt (vl n) (vl (dd d)) = fv n d from rfl]; unfold fenc; have d0 := keepc c0 hb2; have d1 := keepc c1 hb2; have HB2 := Lib.hid (HB1.out.trans (hb2.mono HB1.out.size)); clear hb2))
   go_wp2_with fail
   go_ret
   exact ⟨rfl, HB2.out⟩
theorem toList_nil (z : Int) : ((I z).toList == []) = decide (z = 0) := by
 rw [show ([] : List UInt8) = (I 0).toList from by rw [Lib.toList_data]; rfl]
 by_cases h : z = 0
 ·subst h; simp
 ·rw [neq_toList (fun e => h (I_inj e))]; simp [h]
theorem dr_pos {a b : Int} (h : 0 < b) : dr a b = a % b := by
 unfold dr; rw [dq_pos h]; have := Int.emod_add_mul_ediv a b; omega
theorem even_any (a : ByteArray) (w : World) (s1 : a.size ≤ 3000000) (ht : Tabs w) :
 Calls Tryz.prog 163 #[.string a] w fun e w' => e = .returned (.bool (decide (vl a % 2 = 0))) ∧ Below w.heap.size w w' := by
 have HD := Lib.hid (Div_any a ⟨#[50]⟩ w (by omega) (by show 1 ≤ _; omega) (by rw [show (⟨#[50]⟩ : ByteArray) = I 2 from rfl, vl_I]; omega) ht)
 rw [show vl (⟨#[50]⟩ : ByteArray) = 2 from by rw [show (⟨#[50]⟩ : ByteArray) = I 2 from rfl, vl_I], dr_pos (by omega)] at HD
 have hl := toList_nil (vl a % 2)
 clear ht
 go_enter Tryz.func163, Tryz.ntmps163
 go_wp2_with fail
 refine HD.out.mono ?_
 rintro e w1 ⟨rfl, B1⟩
 clear HD
 go_wp2_with fail
 go_ret
 exact ⟨rfl, B1⟩
def rnd (q : Rat) : Int := if (q.den : Int) < 2 * (q.num % q.den) ∨ ((q.den : Int) = 2 * (q.num % q.den) ∧ q.num / q.den % 2 ≠ 0) then q.num / q.den + 1 else q.num / q.den
theorem Round_any (n d : ByteArray) (w : World) (s1 : n.size ≤ 1000000) (s2 : d.size ≤ 1000000) (ht : Tabs w) :
 Calls Tryz.prog 115 #[.agg #[.string n, .string d], .int .i64 1] w fun e w' => e = .returned (.tuple #[.string (I (rnd (fv n d))), .int .i64 0]) ∧ Below w.heap.size w w' := by
 have HB := Lib.hid ((Below.refl _ w).alloc (Nat.le_refl _) (Obj.cells #[.string n, .string d] 25))
 have HP := Lib.hid (fParts_any n d (w.alloc (Obj.cells #[.string n, .string d] 25)) (by omega) (by omega) (ht.below HB.out))
 obtain ⟨W0, hW0⟩ : ∃ W0, w.alloc (Obj.cells #[.string n, .string d] 25) = W0 := ⟨_, rfl⟩
 have hk : W0.heap[w.heap.size]? = some (Obj.cells #[.string n, .string d] 25) := by rw [← hW0]; exact heap_alloc_new w _
 rw [hW0] at HB HP
 have b0 := Lib.cell_of_heap hk 0
 have b1 := Lib.cell_of_heap hk 1
 simp at b0 b1
 have HT := Lib.hid ht
 obtain ⟨K, hK⟩ : ∃ K, K = 1000001 := ⟨_, rfl⟩
 have hbd := fv_bd n d (k := K) (by omega) (by omega)
 have zn := hbd.num
 have zd := hbd.den
 have hdp := (fv n d).den_pos
 generalize hq : fv n d = q at *
 have HQ := Lib.hid hq
 have zl : (I (q.num / q.den)).size ≤ K + 1 := I_size_le (k := K) (Nat.lt_of_le_of_lt (Int.natAbs_ediv_le_natAbs _ _) hbd.1)
 have zr : (I (q.num % q.den)).size ≤ K + 1 := I_size_le (k := K) (Nat.lt_trans (by
  have h1 := Int.emod_nonneg q.num (b := (q.den : Int)) (by omega); have h2 := Int.emod_lt_of_pos q.num (b := (q.den : Int)) (by omega); omega) hbd.2)
 have r1 := Int.emod_nonneg q.num (b := (q.den : Int)) (by omega)
 have r2 := Int.emod_lt_of_pos q.num (b := (q.den : Int)) (by omega)
 clear ht hk hbd hq
 have hone : (⟨#[49]⟩ : ByteArray) = I 1 := rfl
 go_enter Tryz.func115, Tryz.ntmps115
 go_wp2_with fail
 refine HP.out.mono ?_
 rintro e w1 ⟨rfl, B1⟩
 have B1 := HB.out.trans (B1.mono HB.out.size)
 clear HP HB b0 b1
 go_wp2_with fail
 refine (Div_any (I q.num) (I q.den) w1 (by omega) (by omega) (by rw [vl_I]; omega) (HT.out.below B1)).mono ?_
 rintro e w2 ⟨rfl, B2⟩
 have B2 := B1.trans (B2.mono B1.size)
 rw [vl_I, vl_I, dq_pos (by omega), dr_pos (by omega)]
 clear B1
 have HL := toList_nil (q.num % q.den)
 have hm : ((1 : Int) == 1) = true := rfl
 obtain ⟨lo, hlo⟩ : ∃ lo, lo = q.num / q.den := ⟨_, rfl⟩
 obtain ⟨re, hre⟩ : ∃ re, re = q.num % q.den := ⟨_, rfl⟩
 rw [← hlo] at zl
 rw [← hre] at zr HL r1 r2
 rw [← hlo, ← hre]
 have HLO := Lib.hid hlo
 have HRE := Lib.hid hre
 clear hlo hre
 by_cases h0 : re = 0
 ·rw [decide_eq_true h0] at HL
  have H0 := Lib.hid h0
  clear h0
  go_wp2_with fail
  refine (Compare_any (I q.num) ⟨#[]⟩ w2 (by omega) (by show 0 ≤ _; omega)).mono ?_
  rintro e w4 ⟨rfl, B4⟩
  have B4 := B2.trans (B4.mono B2.size)
  rw [vl_I, show vl (⟨#[]⟩ : ByteArray) = 0 from by rw [zero_eq, vl_I]]
  clear B2
  go_wp2_with fail
  refine (Add_any (I re) (I re) w4 (by omega) (by omega) (HT.out.below B4)).mono ?_
  rintro e w5 ⟨rfl, B5⟩
  have B5 := B4.trans (B5.mono B4.size)
  rw [vl_I]
  clear B4
  have zz : (I (re + re)).size ≤ K + K + 10 := (by
   refine Nat.le_trans (I_size_le (k := (I re).size + 1) (two_lt _ ?_)) (by omega)
   have := vl_lt (I re)
   rw [vl_I] at this
   omega)
  go_wp2_with fail
  refine (Compare_any (I (re + re)) (I q.den) w5 (by omega) (by omega)).mono ?_
  rintro e w6 ⟨rfl, B6⟩
  have B6 := B5.trans (B6.mono B5.size)
  rw [vl_I, vl_I]
  clear B5
  have hc : cmpI (re + re) q.den < 0 := cmpI_lt.2 (by have := H0.out; omega)
  have HC := Lib.hid hc
  have h1 : decide (0 < cmpI (re + re) q.den) = false := decide_eq_false (by omega)
  have h2 : (cmpI (re + re) q.den == 0) = false := beq_eq_false_iff_ne.2 (by omega)
  clear hc
  go_wp2_with fail
  go_ret2
  refine ⟨?_, B6⟩
  have h0 := H0.out
  have hc := HC.out
  unfold rnd
  rw [← HLO.out, ← HRE.out]
  rw [if_neg (by omega)]; rfl
 ·rw [decide_eq_false h0] at HL
  have H0 := Lib.hid h0
  clear h0
  go_wp2_with fail
  refine (Add_any (I lo) (I 1) w2 (by omega) (by show 1 ≤ _; omega) (HT.out.below B2)).mono ?_
  rintro e w3 ⟨rfl, B3⟩
  have B3 := B2.trans (B3.mono B2.size)
  rw [vl_I, vl_I]
  clear B2
  go_wp2_with fail
  refine (Compare_any (I q.num) ⟨#[]⟩ w3 (by omega) (by show 0 ≤ _; omega)).mono ?_
  rintro e w4 ⟨rfl, B4⟩
  have B4 := B3.trans (B4.mono B3.size)
  rw [vl_I, show vl (⟨#[]⟩ : ByteArray) = 0 from by rw [zero_eq, vl_I]]
  clear B3
  go_wp2_with fail
  refine (Add_any (I re) (I re) w4 (by omega) (by omega) (HT.out.below B4)).mono ?_
  rintro e w5 ⟨rfl, B5⟩
  have B5 := B4.trans (B5.mono B4.size)
  rw [vl_I]
  clear B4
  have zz : (I (re + re)).size ≤ K + K + 10 := (by
   refine Nat.le_trans (I_size_le (k := (I re).size + 1) (two_lt _ ?_)) (by omega)
   have := vl_lt (I re)
   rw [vl_I] at this
   omega)
  go_wp2_with fail
  refine (Compare_any (I (re + re)) (I q.den) w5 (by omega) (by omega)).mono ?_
  rintro e w6 ⟨rfl, B6⟩
  have B6 := B5.trans (B6.mono B5.size)
  rw [vl_I, vl_I]
  clear B5
  rcases Int.lt_trichotomy (re + re) q.den with hc | hc | hc
  ·have HC := Lib.hid hc
   have h1 : decide (0 < cmpI (re + re) q.den) = false := decide_eq_false (by rw [cmpI_gt]; omega)
   have h2 : (cmpI (re + re) q.den == 0) = false := beq_eq_false_iff_ne.2 (by rw [Ne, cmpI_eq]; omega)
   clear hc
   go_wp2_with fail
   go_ret2
   refine ⟨?_, B6⟩
   have h0 := H0.out
   have hc := HC.out
   unfold rnd
   rw [← HLO.out, ← HRE.out]
   rw [if_neg (by omega)]; rfl
  ·have HC := Lib.hid hc
   have h1 : decide (0 < cmpI (re + re) q.den) = false := decide_eq_false (by rw [cmpI_gt]; omega)
   have h2 : (cmpI (re + re) q.den == 0) = true := beq_iff_eq.2 (cmpI_eq.2 hc)
   clear hc
   go_wp2_with fail
   refine (even_any (I lo) w6 (by omega) (HT.out.below B6)).mono ?_
   rintro e w7 ⟨rfl, B7⟩
   have B7 := B6.trans (B7.mono B6.size)
   rw [vl_I]
   by_cases he : lo % 2 = 0
   ·have he' : decide (lo % 2 = 0) = true := decide_eq_true he
    have HE := Lib.hid he
    clear he
    go_wp2_with fail
    go_ret2
    refine ⟨?_, B7⟩
    have h0 := H0.out
    have hc := HC.out
    unfold rnd
    rw [← HLO.out, ← HRE.out]
    rw [if_neg (by have := HE.out; omega)]; rfl
   ·have he' : decide (lo % 2 = 0) = false := decide_eq_false he
    have HE := Lib.hid he
    clear he
    go_wp2_with fail
    go_ret2
    refine ⟨?_, B7⟩
    have h0 := H0.out
    have hc := HC.out
    unfold rnd
    rw [← HLO.out, ← HRE.out]
    rw [if_pos (by have := HE.out; omega)]; rfl
  ·have HC := Lib.hid hc
   have h1 : decide (0 < cmpI (re + re) q.den) = true := decide_eq_true (by rw [cmpI_gt]; omega)
   clear hc
   go_wp2_with fail
   go_ret2
   refine ⟨?_, B6⟩
   have h0 := H0.out
   have hc := HC.out
   unfold rnd
   rw [← HLO.out, ← HRE.out]
   rw [if_pos (by omega)]; rfl
end Go.Proofs.YtbkmhmaldljgmaaGreatDoor
namespace Tr
def leapB (y : Int) : Bool := (y % 4 == 0 && y % 100 != 0) || y % 400 == 0
def lenB (lp : Bool) (m : Nat) : Int := if m = 2 then (if lp then 29 else 28) else if m = 4 ∨ m = 6 ∨ m = 9 ∨ m = 11 then 30 else 31
def cumB (lp : Bool) : Nat → Int
 | 0 => 0
 | k + 1 => cumB lp k + lenB lp (k + 1)
def ylen (lp : Bool) : Int := if lp then 366 else 365
def bg (y : Int) : Int := 365 * (y - 1900) + ((y - 1) / 4 - (y - 1) / 100 + (y - 1) / 400) - 460
theorem bg_succ (y : Int) : bg (y + 1) = bg y + ylen (leapB y) := by
 have h : leapB y = decide ((y % 4 = 0 ∧ y % 100 ≠ 0) ∨ y % 400 = 0) := by
  unfold leapB; rw [Bool.eq_iff_iff]; simp
 unfold bg ylen
 rw [h]
 by_cases hc : (y % 4 = 0 ∧ y % 100 ≠ 0) ∨ y % 400 = 0
 ·rw [decide_eq_true hc, if_pos rfl]; omega
 ·rw [decide_eq_false hc, if_neg (by simp)]; omega
theorem cum12 (lp : Bool) : cumB lp 12 = ylen lp := by cases lp <;> decide
theorem cum_mono (lp : Bool) {m k : Nat} (h : m ≤ k) : cumB lp m ≤ cumB lp k := by
 induction k with
 | zero => have : m = 0 := by omega
           subst this; exact Int.le_refl _
 | succ k ih =>
   rcases Nat.lt_or_ge k m with h1 | h1
   ·have : m = k + 1 := by omega
    subst this; exact Int.le_refl _
   ·have := ih h1
    have h2 : 0 ≤ lenB lp (k + 1) := by unfold lenB; split <;> (try split) <;> omega
    show _ ≤ cumB lp k + lenB lp (k + 1)
    omega
theorem lenB_pos (lp : Bool) (m : Nat) : 28 ≤ lenB lp m ∧ lenB lp m ≤ 31 := by unfold lenB; split <;> (try split) <;> omega
def VDate (y : Int) (m : Nat) (d : Int) : Prop := 1900 ≤ y ∧ y ≤ 2199 ∧ 1 ≤ m ∧ m ≤ 12 ∧ 1 ≤ d ∧ d ≤ lenB (leapB y) m
def dayOf (y : Int) (m : Nat) (d : Int) : Int := -25567 + bg y + cumB (leapB y) (m - 1) + d - 1
theorem in_year {y : Int} {m : Nat} {d : Int} (h : VDate y m d) : bg y ≤ dayOf y m d + 25567 ∧ dayOf y m d + 25567 < bg (y + 1) := by
 obtain ⟨_, _, h3, h4, h5, h6⟩ := h
 have e1 : 0 ≤ cumB (leapB y) (m - 1) := cum_mono (m := 0) _ (by omega)
 have e2 : cumB (leapB y) (m - 1) + lenB (leapB y) m ≤ cumB (leapB y) 12 := by
  have := cum_mono (leapB y) (m := m) (k := 12) h4
  obtain ⟨j, rfl⟩ : ∃ j, m = j + 1 := ⟨m - 1, by omega⟩
  exact this
 rw [bg_succ, ← cum12]
 unfold dayOf
 omega
theorem bg_mono {x y : Int} (h : x ≤ y) : bg x ≤ bg y := by unfold bg; omega
theorem date_unique {y y' : Int} {m m' : Nat} {d d' : Int} (h : VDate y m d) (h' : VDate y' m' d') (e : dayOf y m d = dayOf y' m' d') : y = y' ∧ m = m' ∧ d = d' := by
 have a := in_year h
 have b := in_year h'
 have hy : y = y' := by
  rcases Int.lt_trichotomy y y' with h1 | h1 | h1
  ·have := bg_mono (x := y + 1) (y := y') (by omega); omega
  ·exact h1
  ·have := bg_mono (x := y' + 1) (y := y) (by omega); omega
 subst hy
 obtain ⟨_, _, h3, h4, h5, h6⟩ := h
 obtain ⟨_, _, k3, k4, k5, k6⟩ := h'
 unfold dayOf at e
 have hm : m = m' := by
  have key : ∀ p q : Nat, 1 ≤ p → p < q → cumB (leapB y) (p - 1) + lenB (leapB y) p ≤ cumB (leapB y) (q - 1) := by
   intro p q hp hpq
   have := cum_mono (leapB y) (m := p) (k := q - 1) (by omega)
   obtain ⟨j, rfl⟩ : ∃ j, p = j + 1 := ⟨p - 1, by omega⟩
   exact this
  rcases Nat.lt_trichotomy m m' with h1 | h1 | h1
  ·have := key m m' h3 h1; omega
  ·exact h1
  ·have := key m' m k3 h1; omega
 subst hm
 exact ⟨rfl, rfl, by omega⟩
end Tr
namespace Go.Proofs.YtbkmhmaldljgmaaGreatDoor
open Go.RowKit Tr Go.Shelf
theorem Leap_any (y : Int) (h0 : 0 ≤ y) (h1 : y ≤ 100000) (w : World) :
 Calls Tryz.prog 149 #[.int .i64 y] w fun e w' => e = .returned (.bool (leapB y)) ∧ w' = w := by
 have e4 : y.tmod 4 = y % 4 := Int.tmod_eq_emod_of_nonneg h0
 have e100 : y.tmod 100 = y % 100 := Int.tmod_eq_emod_of_nonneg h0
 have e400 : y.tmod 400 = y % 400 := Int.tmod_eq_emod_of_nonneg h0
 go_enter Tryz.func149, Tryz.ntmps149
 go_wp2_with fail
 all_goals (go_ret; refine ⟨?_, rfl⟩; simp [leapB, *])
theorem begin_any (y : Int) (h0 : 1900 ≤ y) (h1 : y ≤ 2300) (w : World) :
 Calls Tryz.prog 101 #[.int .i64 y] w fun e w' => e = .returned (.int .i64 (bg y)) ∧ w' = w := by
 have e4 : (y - 1).tdiv 4 = (y - 1) / 4 := Int.tdiv_eq_ediv_of_nonneg (by omega)
 have e100 : (y - 1).tdiv 100 = (y - 1) / 100 := Int.tdiv_eq_ediv_of_nonneg (by omega)
 have e400 : (y - 1).tdiv 400 = (y - 1) / 400 := Int.tdiv_eq_ediv_of_nonneg (by omega)
 go_enter Tryz.func101, Tryz.ntmps101
 go_wp2_with fail
 go_ret
 exact ⟨rfl, rfl⟩
theorem length_any (y : Int) (m : Nat) (h0 : 0 ≤ y) (h1 : y ≤ 100000) (m0 : 1 ≤ m) (m1 : m ≤ 12) (w : World) :
 Calls Tryz.prog 102 #[.int .i64 y, .int .i64 (m : Int)] w fun e w' => e = .returned (.int .i64 (lenB (leapB y) m)) ∧ Below w.heap.size w w' := by
 have HL := Lib.hid (fun W => Leap_any y h0 h1 W)
 obtain ⟨W0, hW0⟩ : ∃ W0, w.alloc (.cells #[.int .i64 31, .int .i64 28, .int .i64 31, .int .i64 30, .int .i64 31, .int .i64 30, .int .i64 31, .int .i64 31, .int .i64 30, .int .i64 31, .int .i64 30, .int .i64 31] 193) = W0 := ⟨_, rfl⟩
 have hk : W0.heap[w.heap.size]? = some (.cells #[.int .i64 31, .int .i64 28, .int .i64 31, .int .i64 30, .int .i64 31, .int .i64 30, .int .i64 31, .int .i64 31, .int .i64 30, .int .i64 31, .int .i64 30, .int .i64 31] 193) := by rw [← hW0]; exact heap_alloc_new w _
 have HB : Hid (Below w.heap.size w W0) := by rw [← hW0]; exact (Below.refl _ w).alloc (Nat.le_refl _) _
 have c0 := Lib.cell_of_heap hk 0
 have c1 := Lib.cell_of_heap hk 1
 have c2 := Lib.cell_of_heap hk 2
 have c3 := Lib.cell_of_heap hk 3
 have c4 := Lib.cell_of_heap hk 4
 have c5 := Lib.cell_of_heap hk 5
 have c6 := Lib.cell_of_heap hk 6
 have c7 := Lib.cell_of_heap hk 7
 have c8 := Lib.cell_of_heap hk 8
 have c9 := Lib.cell_of_heap hk 9
 have c10 := Lib.cell_of_heap hk 10
 have c11 := Lib.cell_of_heap hk 11
 simp at c0 c1 c2 c3 c4 c5 c6 c7 c8 c9 c10 c11
 clear hk
 by_cases h2 : m = 2
 ·subst h2
  rw [show ((2 : Nat) : Int) = 2 from rfl]
  go_enter Tryz.func102, Tryz.ntmps102
  go_wp2_with fail
  refine (HL.out W0).mono ?_
  rintro e w1 ⟨rfl, rfl⟩
  cases hl : leapB y
  all_goals (go_wp2_with fail; go_ret; exact ⟨by rw [hl]; rfl, HB.out⟩)
 ·obtain rfl | rfl | rfl | rfl | rfl | rfl | rfl | rfl | rfl | rfl | rfl : m = 1 ∨ m = 3 ∨ m = 4 ∨ m = 5 ∨ m = 6 ∨ m = 7 ∨ m = 8 ∨ m = 9 ∨ m = 10 ∨ m = 11 ∨ m = 12 := by omega
  ·rw [show ((1 : Nat) : Int) = 1 from rfl]
   go_enter Tryz.func102, Tryz.ntmps102
   go_wp2_with fail
   go_ret
   exact ⟨by cases leapB y <;> rfl, HB.out⟩
  ·rw [show ((3 : Nat) : Int) = 3 from rfl]
   go_enter Tryz.func102, Tryz.ntmps102
   go_wp2_with fail
   go_ret
   exact ⟨by cases leapB y <;> rfl, HB.out⟩
  ·rw [show ((4 : Nat) : Int) = 4 from rfl]
   go_enter Tryz.func102, Tryz.ntmps102
   go_wp2_with fail
   go_ret
   exact ⟨by cases leapB y <;> rfl, HB.out⟩
  ·rw [show ((5 : Nat) : Int) = 5 from rfl]
   go_enter Tryz.func102, Tryz.ntmps102
   go_wp2_with fail
   go_ret
   exact ⟨by cases leapB y <;> rfl, HB.out⟩
  ·rw [show ((6 : Nat) : Int) = 6 from rfl]
   go_enter Tryz.func102, Tryz.ntmps102
   go_wp2_with fail
   go_ret
   exact ⟨by cases leapB y <;> rfl, HB.out⟩
  ·rw [show ((7 : Nat) : Int) = 7 from rfl]
   go_enter Tryz.func102, Tryz.ntmps102
   go_wp2_with fail
   go_ret
   exact ⟨by cases leapB y <;> rfl, HB.out⟩
  ·rw [show ((8 : Nat) : Int) = 8 from rfl]
   go_enter Tryz.func102, Tryz.ntmps102
   go_wp2_with fail
   go_ret
   exact ⟨by cases leapB y <;> rfl, HB.out⟩
  ·rw [show ((9 : Nat) : Int) = 9 from rfl]
   go_enter Tryz.func102, Tryz.ntmps102
   go_wp2_with fail
   go_ret
   exact ⟨by cases leapB y <;> rfl, HB.out⟩
  ·rw [show ((10 : Nat) : Int) = 10 from rfl]
   go_enter Tryz.func102, Tryz.ntmps102
   go_wp2_with fail
   go_ret
   exact ⟨by cases leapB y <;> rfl, HB.out⟩
  ·rw [show ((11 : Nat) : Int) = 11 from rfl]
   go_enter Tryz.func102, Tryz.ntmps102
   go_wp2_with fail
   go_ret
   exact ⟨by cases leapB y <;> rfl, HB.out⟩
  ·rw [show ((12 : Nat) : Int) = 12 from rfl]
   go_enter Tryz.func102, Tryz.ntmps102
   go_wp2_with fail
   go_ret
   exact ⟨by cases leapB y <;> rfl, HB.out⟩
theorem cum_step (lp : Bool) {m : Nat} (h : 1 ≤ m) : cumB lp m = cumB lp (m - 1) + lenB lp m := by
 obtain ⟨j, rfl⟩ : ∃ j, m = j + 1 := ⟨m - 1, by omega⟩
 rfl
theorem cum_bd (lp : Bool) {m : Nat} (h : m ≤ 12) : 0 ≤ cumB lp m ∧ cumB lp m ≤ 366 := by
 have h1 := cum_mono lp (m := 0) (k := m) (by omega)
 have h2 := cum_mono lp (m := m) (k := 12) h
 rw [cum12] at h2
 have : ylen lp ≤ 366 := by unfold ylen; split <;> omega
 have h3 : cumB lp 0 = 0 := rfl
 omega
theorem bg_bd {y : Int} (h0 : 1900 ≤ y) (h1 : y ≤ 2300) : 0 ≤ bg y ∧ bg y ≤ 146500 := by unfold bg; omega
def okDay (d : Int) : Prop := -25567 ≤ d ∧ d ≤ 84005
instance (d : Int) : Decidable (okDay d) := by unfold okDay; infer_instance
theorem dvalid_any (d : Int) (w : World) :
 Calls Tryz.prog 100 #[.int .i64 d] w fun e w' => e = .returned (.bool (decide (okDay d))) ∧ w' = w := by
 go_enter Tryz.func100, Tryz.ntmps100
 go_wp2_with fail
 all_goals (go_ret; refine ⟨?_, rfl⟩; first | (rw [decide_eq_true (p := okDay d) (by unfold okDay; omega)]; rfl) | (rw [decide_eq_false (p := okDay d) (by unfold okDay; omega)]; rfl) | (simp [okDay, *]; done))
def PartsPost (d : Int) (w : World) (e : Ending) (w' : World) : Prop := ∃ (y : Int) (m : Nat) (dd : Int), e = .returned (.tuple #[.int .i64 y, .int .i64 (m : Int), .int .i64 dd, .int .i64 0]) ∧ VDate y m dd ∧ dayOf y m dd = d ∧ Below w.heap.size w w'
theorem Parts_no (d : Int) (hd : ¬ okDay d) (w : World) :
 Calls Tryz.prog 60 #[.int .i64 d] w fun e w' => e = .returned (.tuple #[.int .i64 0, .int .i64 0, .int .i64 0, .int .i64 13]) ∧ w' = w := by
 have HV := Lib.hid (dvalid_any d w)
 rw [decide_eq_false hd] at HV
 go_enter Tryz.func60, Tryz.ntmps60
 go_wp2_with fail
 refine HV.out.mono ?_
 rintro e w1 ⟨rfl, rfl⟩
 go_wp2_with fail
 refine bodyPost_ret (v := .tuple #[.int .i64 0, .int .i64 0, .int .i64 0, .int .i64 13]) (by simp [results, Tryz.results60, go_sem]) rfl ?_
 exact ⟨rfl, rfl⟩
theorem Parts_any (d : Int) (hd : okDay d) (w : World) :
 Calls Tryz.prog 60 #[.int .i64 d] w (PartsPost d w) := by
 have HV := Lib.hid (dvalid_any d w)
 rw [decide_eq_true hd] at HV
 obtain ⟨d0, d1⟩ := hd
 have HLN := Lib.hid (fun (y : Int) (y0 : 1900 ≤ y) (y1 : y ≤ 2300) (k : Nat) (k0 : 1 ≤ k) (k1 : k ≤ 12) W => length_any y k (by omega) (by omega) k0 k1 W)
 have HBG := Lib.hid (fun (y : Int) (y0 : 1900 ≤ y) (y1 : y ≤ 2300) W => begin_any y y0 (by omega) W)
 have hq : (d - -25567).tdiv 366 = (d + 25567) / 366 := by rw [Int.tdiv_eq_ediv_of_nonneg (by omega)]; congr 1
 go_enter Tryz.func60, Tryz.ntmps60
 go_wp2_with fail
 refine HV.out.mono ?_
 rintro e w1 ⟨rfl, rfl⟩
 go_wp2_with fail
 go_loopw [7] (fun v7 wr => ∃ y : Int, v7 = .int .i64 y ∧ 1900 ≤ y ∧ y ≤ 2199 ∧ bg y ≤ d + 25567 ∧ wr = w1) (fun v7 _ => 2300 - (intOf v7).toNat)
 case atStart => exact ⟨1900 + (d + 25567) / 366, rfl, by omega, by omega, by unfold bg; omega, rfl⟩
 case round =>
  obtain ⟨y, rfl, y0, y1, hy, rfl⟩ := hrel
  go_wp2_with fail
  refine (HBG.out (y + 1) (by omega) (by omega) _).mono ?_
  rintro e w2 ⟨rfl, rfl⟩
  by_cases hc : bg (y + 1) ≤ d + 25567
  ·have hc' : decide (bg (y + 1) ≤ d + 25567) = true := decide_eq_true (by omega)
   have hy2 : y + 1 ≤ 2199 := by
    rcases Int.lt_or_le (y + 1) 2200 with h | h
    ·omega
    ·have := bg_mono h
     rw [show bg 2200 = 109573 from by decide] at this
     omega
   go_wp2_with fail
   refine ⟨⟨y + 1, rfl, by omega, hy2, hc, by trivial⟩, by simp [intOf]; omega⟩
  ·have hc' : decide (bg (y + 1) ≤ d + 25567) = false := decide_eq_false (by omega)
   have hbg := bg_bd y0 (by omega)
   rw [bg_succ] at hc
   rw [← cum12] at hc
   go_wp2_with fail
   refine (HBG.out y y0 (by omega) _).mono ?_
   rintro e w3 ⟨rfl, rfl⟩
   go_wp2_with fail
   go_loopw [6, 8] (fun v6 v8 wr => ∃ k : Nat, v8 = .int .i64 (k : Int) ∧ v6 = .int .i64 (d + 25567 - bg y - cumB (leapB y) (k - 1)) ∧ 1 ≤ k ∧ k ≤ 12 ∧ 0 ≤ d + 25567 - bg y - cumB (leapB y) (k - 1) ∧ Below w3.heap.size w3 wr) (fun _ v8 _ => 13 - (intOf v8).toNat)
   case atStart => exact ⟨1, rfl, by simp [cumB], by omega, by omega, by simp [cumB]; omega, Below.refl _ _⟩
   case round =>
    obtain ⟨k, rfl, rfl, k0, k1, hn, hB⟩ := hrel
    have hst := cum_step (leapB y) k0
    have hlk := lenB_pos (leapB y) k
    have hcb := cum_bd (leapB y) (m := k - 1) (by omega)
    have hcb2 := cum_mono (leapB y) (m := k) (k := 12) k1
    go_wp2_with fail
    refine (HLN.out y y0 (by omega) k k0 k1 _).mono ?_
    rintro e w4 ⟨rfl, hB4⟩
    by_cases hl : lenB (leapB y) k ≤ d + 25567 - bg y - cumB (leapB y) (k - 1)
    ·have hl' : decide (d + 25567 - bg y - cumB (leapB y) (k - 1) ≥ lenB (leapB y) k) = true := decide_eq_true hl
     have hk12 : k ≤ 11 := by
      rcases Nat.lt_or_ge k 12 with h | h
      ·omega
      ·have : k = 12 := by omega
       subst this; omega
     go_wp2_with fail
     refine (HLN.out y y0 (by omega) k k0 k1 _).mono ?_
     rintro e w5 ⟨rfl, hB5⟩
     go_wp2_with fail
     have hB45 := hB.trans (hB4.mono hB.size)
     refine ⟨⟨k + 1, by simp, ?_, by omega, by omega, ?_, hB45.trans (hB5.mono hB45.size)⟩, by simp [intOf]; omega⟩
     ·rw [show k + 1 - 1 = k from rfl, hst]; congr 1; omega
     ·rw [show k + 1 - 1 = k from rfl, hst]; omega
    ·have hl' : decide (d + 25567 - bg y - cumB (leapB y) (k - 1) ≥ lenB (leapB y) k) = false := decide_eq_false hl
     go_wp2_with fail
     refine bodyPost_ret (v := .tuple #[.int .i64 y, .int .i64 (k : Int), .int .i64 (d + 25567 - bg y - cumB (leapB y) (k - 1) + 1), .int .i64 0]) (by simp [results, Tryz.results60, go_sem]) rfl ?_
     refine ⟨y, k, _, rfl, ⟨y0, y1, k0, k1, by omega, by omega⟩, by unfold dayOf; omega, hB.trans (hB4.mono hB.size)⟩
theorem Itoa_any (n : Int) (h0 : -9223372036854775808 ≤ n) (h1 : n ≤ 9223372036854775807) (w : World) (ht : Tabs w) :
 Calls Tryz.prog 63 #[.int .i64 n] w fun e w' => e = .returned (.string (bs (Lib.itoa n))) ∧ Below w.heap.size w w' := by
 refine (Tryz.strconv_Itoa n h0 h1 w ht.pow10).mono ?_
 rintro e w1 ⟨rfl, k, os, rfl⟩
 exact ⟨rfl, below_grow os k⟩
def two (n : Nat) : List UInt8 := List.replicate (2 - (Lib.itoa (n : Int)).length) 48 ++ Lib.itoa (n : Int)
theorem itoa_len {n : Nat} (h : n < 100) : 1 ≤ (Lib.itoa (n : Int)).length ∧ (Lib.itoa (n : Int)).length ≤ 2 := by
 have : ∀ n : Fin 100, 1 ≤ (Lib.itoa ((n : Nat) : Int)).length ∧ (Lib.itoa ((n : Nat) : Int)).length ≤ 2 := by
  intro n
  unfold Lib.itoa
  rw [if_neg (by omega)]
  rw [show (((n : Nat) : Int)).toNat = (n : Nat) from by omega]
  rcases Nat.eq_zero_or_pos (n : Nat) with h | h
  ·rw [h]; have := dec_zero; unfold dec at this; rw [this]; simp
  ·rw [Lib.decDigits_length]
   have := (digits_length_le_iff 2 (n : Nat)).2 (by have := n.2; omega)
   have e := dec_pos h
   unfold dec at e
   have e2 := congrArg List.length e
   rw [Lib.decDigits_length] at e2
   have : 1 ≤ (digits (n : Nat)).length := by
    rcases hd : digits (n : Nat) with _ | _
    ·have := dval_digits (n : Nat); rw [hd] at this; simp [dval] at this; omega
    ·simp
   omega
 exact this ⟨n, h⟩
theorem two_any (n : Nat) (h : n < 100) (w : World) (ht : Tabs w) :
 Calls Tryz.prog 61 #[.int .i64 (n : Int)] w fun e w' => e = .returned (.string (bs (two n))) ∧ Below w.heap.size w w' := by
 have HT := Lib.hid ht
 have HI := Lib.hid (fun W hW => Itoa_any (n : Int) (by omega) (by omega) W hW)
 have hl := itoa_len h
 have hz : (bs (Lib.itoa (n : Int))).size = (Lib.itoa (n : Int)).length := bs_size _
 clear ht
 go_enter Tryz.func61, Tryz.ntmps61
 go_wp2_with fail
 refine (HI.out w HT.out).mono ?_
 rintro e w1 ⟨rfl, B1⟩
 go_wp2_with fail
 rw [show (2 : Int) - ((Lib.itoa (n : Int)).length : Int) = ((2 - (Lib.itoa (n : Int)).length : Nat) : Int) from by omega]
 refine (Tryz.strings_Repeat ⟨#[48]⟩ (2 - (Lib.itoa (n : Int)).length) _ (by omega) (by simp [ByteArray.size]; omega)).mono ?_
 rintro e w2 ⟨rfl, hb2⟩
 rw [show (⟨#[48]⟩ : ByteArray).data.toList = [48] from rfl, repeatL_eq]
 have hrl : (List.replicate (2 - (Lib.itoa (n : Int)).length) (48 : UInt8)).length ≤ 2 := by simp
 rw [show (ByteArray.mk (List.toArray (List.replicate (2 - (Lib.itoa (n : Int)).length) (48 : UInt8)))) = bs (List.replicate (2 - (Lib.itoa (n : Int)).length) (48 : UInt8)) from rfl]
 have hrz : (bs (List.replicate (2 - (Lib.itoa (n : Int)).length) (48 : UInt8))).size = (List.replicate (2 - (Lib.itoa (n : Int)).length) (48 : UInt8)).length := bs_size _
 have B2 := B1.trans (hb2.mono B1.size)
 clear hb2 B1
 go_wp2_with fail
 refine (HI.out w2 (HT.out.below B2)).mono ?_
 rintro e w3 ⟨rfl, B3⟩
 have B3 := B2.trans (B3.mono B2.size)
 clear B2 HI
 go_wp2_with fail
 go_ret
 refine ⟨?_, B3⟩
 show Ending.returned (Value.string (bs _ ++ bs _)) = _
 rw [bs_append]; rfl
def dtext (y : Int) (m d : Nat) : ByteArray := bs (Lib.itoa y ++ [45] ++ two m ++ [45] ++ two d)
def IsText (d : Int) (s : ByteArray) : Prop := ∃ (y : Int) (m : Nat) (dd : Nat), VDate y m dd ∧ dayOf y m dd = d ∧ s = dtext y m dd
noncomputable def ptext (d : Int) : ByteArray := by classical exact if h : ∃ s, IsText d s then h.choose else ⟨#[]⟩
theorem ptext_eq {y : Int} {m dd : Nat} (h : VDate y m dd) {d : Int} (hd : dayOf y m dd = d) : ptext d = dtext y m dd := by
 have hex : ∃ s, IsText d s := ⟨_, y, m, dd, h, hd, rfl⟩
 unfold ptext
 rw [dif_pos hex]
 obtain ⟨y', m', dd', h', e', es⟩ := hex.choose_spec
 obtain ⟨rfl, rfl, e3⟩ := date_unique h h' (hd.trans e'.symm)
 rw [es]
 have : dd = dd' := by omega
 subst this; rfl
theorem Print_no (d : Int) (hd : ¬ okDay d) (w : World) :
 Calls Tryz.prog 33 #[.int .i64 d] w fun e w' => e = .returned (.tuple #[.string ⟨#[]⟩, .int .i64 13]) ∧ w' = w := by
 have HP := Lib.hid (Parts_no d hd w)
 go_enter Tryz.func33, Tryz.ntmps33
 go_wp2_with fail
 refine HP.out.mono ?_
 rintro e w1 ⟨rfl, rfl⟩
 go_wp2_with fail
 go_ret2
 exact ⟨rfl, rfl⟩
theorem Print_any (d : Int) (hd : okDay d) (w : World) (ht : Tabs w) :
 Calls Tryz.prog 33 #[.int .i64 d] w fun e w' => e = .returned (.tuple #[.string (ptext d), .int .i64 0]) ∧ Below w.heap.size w w' := by
 have HP := Lib.hid (Parts_any d hd w)
 have HT := Lib.hid ht
 clear ht
 go_enter Tryz.func33, Tryz.ntmps33
 go_wp2_with fail
 refine HP.out.mono ?_
 rintro e w1 ⟨y, m, dd, rfl, hv, hd', B1⟩
 obtain ⟨q, rfl⟩ : ∃ q : Nat, dd = (q : Int) := ⟨dd.toNat, by have := hv.2.2.2.2.1; omega⟩
 have hpt := ptext_eq hv hd'
 have HPT := Lib.hid hpt
 have b1 := hv.1
 have b2 := hv.2.1
 have b3 := hv.2.2.2.1
 have b4 := hv.2.2.2.2.2
 have b5 := lenB_pos (leapB y) m
 have hz1 : (bs (Lib.itoa y)).size = (Lib.itoa y).length := bs_size _
 have hz2 := nDigits_size y (by omega) (by omega)
 have t2 : ∀ k : Nat, k < 100 → (two k).length = 2 := by
  intro k hk
  have := itoa_len hk
  unfold two; simp; omega
 have hm2 := t2 m (by omega)
 have hq2 := t2 q (by omega)
 clear hv hd' hpt HP t2
 go_wp2_with fail
 refine (Itoa_any y (by omega) (by omega) w1 (HT.out.below B1)).mono ?_
 rintro e w2 ⟨rfl, B2⟩
 have B2 := B1.trans (B2.mono B1.size)
 clear B1
 go_wp2_with fail
 refine (two_any m (by omega) w2 (HT.out.below B2)).mono ?_
 rintro e w3 ⟨rfl, B3⟩
 have B3 := B2.trans (B3.mono B2.size)
 clear B2
 have hz3 : (bs (two m)).size = (two m).length := bs_size _
 go_wp2_with fail
 refine (two_any q (by omega) w3 (HT.out.below B3)).mono ?_
 rintro e w4 ⟨rfl, B4⟩
 have B4 := B3.trans (B4.mono B3.size)
 clear B3
 have hz4 : (bs (two q)).size = (two q).length := bs_size _
 go_wp2_with fail
 go_ret2
 refine ⟨?_, B4⟩
 rw [HPT.out]
 unfold dtext
 rw [← bs_append, ← bs_append, ← bs_append, ← bs_append]
 rfl
end Go.Proofs.YtbkmhmaldljgmaaGreatDoor
