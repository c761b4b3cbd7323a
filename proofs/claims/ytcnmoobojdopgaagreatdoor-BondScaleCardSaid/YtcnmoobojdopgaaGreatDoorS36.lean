/-
  The walks of tranchelaw11.example, awake: the example of the chapter. (Printed by gen_aw11.py.)
-/
import Derived.Test.YtcnmoobojdopgaaGreatDoorS35
set_option linter.unusedVariables false
set_option linter.unusedSimpArgs false
set_option maxHeartbeats 16000000
set_option maxRecDepth 100000
namespace Go.Proofs.YtcnmoobojdopgaaGreatDoor
open Go.RowKit Tr Go.Shelf
theorem run_store_rowF (W : World) (B n : Nat) (t : TypeId) (cur vals : Array Value) (hz : (sizeOf t).run Tryz.prog W = .ok n W) (hB : W.heap[B]? = some (.cells cur t (0, 0))) (hc : cur.size = n) (hv : vals.size = n) (h1 : ∀ u ∈ vals.toList, u.oneCell' = true) :
 (Instr.storeAt t (.pointer (some ⟨B, 0, none⟩)) (.agg vals)).run Tryz.prog W = .ok () (W.setRow B vals) := by
 have hs := run_storeCells_at (P := Tryz.prog) B 0 t vals.toList 0 cur W hB (by simp [hc, hv]) h1
 simp only [Nat.zero_add, List.take_zero, List.nil_append, Array.length_toList] at hs
 rw [List.drop_eq_nil_of_le (by simp [hc, hv]), List.append_nil, Array.toArray_toList] at hs
 unfold Instr.storeAt storeVar
 simp only [Sem.run_bind, Instr.sureAddr, Sem.run_pure, Result.andThen_ok, hz]
 rw [if_neg (by show ¬ vals.size ≠ n; exact fun h => h hv)]
 exact hs
theorem below_setRowF {B0 B : Nat} {w W : World} (h : Below B0 w W) (hB : B0 ≤ B) (vals : Array Value) : Below B0 w (W.setRow B vals) :=
 ⟨h.os, h.tape, h.output, by simp [World.setRow]; exact h.size, fun k hk => by rw [setRow_other _ B k _ (by omega)]; exact h.block k hk⟩
theorem day11_a (w : World) : Calls Tryz.prog 45 #[.int .i64 2024, .int .i64 1, .int .i64 15] w fun e w' => e = .returned (.int .i64 19737) ∧ Below w.heap.size w w' := by
 have h := day11_any 2024 1 15 d_issued.1 w
 rw [d_issued.2] at h; exact h
theorem day11_b (w : World) : Calls Tryz.prog 45 #[.int .i64 2025, .int .i64 1, .int .i64 15] w fun e w' => e = .returned (.int .i64 20103) ∧ Below w.heap.size w w' := by
 have h := day11_any 2025 1 15 d_mat.1 w
 rw [d_mat.2] at h; exact h
theorem day11_c (w : World) : Calls Tryz.prog 45 #[.int .i64 2024, .int .i64 4, .int .i64 15] w fun e w' => e = .returned (.int .i64 19828) ∧ Below w.heap.size w w' := by
 have h := day11_any 2024 4 15 d_apr.1 w
 rw [d_apr.2] at h; exact h
theorem day11_d (w : World) : Calls Tryz.prog 45 #[.int .i64 2024, .int .i64 7, .int .i64 15] w fun e w' => e = .returned (.int .i64 19919) ∧ Below w.heap.size w w' := by
 have h := day11_any 2024 7 15 d_jul.1 w
 rw [d_jul.2] at h; exact h
theorem ratio11_to (n d : Int) (q : Rat) (hq : Rat.divInt n d = q) (h0 : -9000000000000000000 ≤ n) (h1 : n ≤ 9000000000000000000) (g0 : -9000000000000000000 ≤ d) (g1 : d ≤ 9000000000000000000) (hd : d ≠ 0) (w : World) (ht : Tabs w) :
 Calls Tryz.prog 10 #[.int .i64 n, .int .i64 d] w fun e w' => e = .returned (.agg #[.string (I q.num), .string (dn q)]) ∧ Below w.heap.size w w' := by
 have h := ratio11_any n d h0 h1 g0 g1 hd w ht
 rw [hq] at h; exact h
theorem run_eql_frac (a b c d : ByteArray) (w : World) : (binOp .eql 25 (.agg #[.string a, .string b]) (.agg #[.string c, .string d])).run Tryz.prog w = .ok (.bool (decide (a = c) && decide (b = d))) w := by
 have hS : Tryz.prog.underlying 25 = some (.struct (Tryz.prog.fieldsOf 25)) := by kernel_rfl
 have hp : Tryz.prog.stoodInHeld 25 = false := by kernel_rfl
 have u1 := Tryz.underlying23
 have a1 := Tryz.isAgg23
 have z1 := Tryz.sizeOf23
 rw [run_eql_struct, show (10000 : Nat) = 9999 + 1 from rfl, run_equalIn_agg w 9999 _ _ _ hS hp]
 simp only [Program.fieldsOf, Tryz.underlying25]
 go_simp
 by_cases h0 : a = c
 case neg => simp [tl_eq, h0]
 by_cases h1 : b = d
 case neg => simp [tl_eq, h0, h1]
 simp [tl_eq, h0, h1]
theorem run_eql_self (a b : ByteArray) (w : World) : (binOp .eql 25 (.agg #[.string a, .string b]) (.agg #[.string a, .string b])).run Tryz.prog w = .ok (.bool true) w := by
 rw [run_eql_frac]; simp
abbrev instZeroB : Array Value := #[.string ⟨#[]⟩, .int .i64 0, .string ⟨#[]⟩, .int .i64 0, .int .i64 0, .int .i64 0, .string ⟨#[]⟩, .string ⟨#[]⟩, .string ⟨#[]⟩, .string ⟨#[]⟩, .int .i64 0, .int .i64 0, .string ⟨#[]⟩, .string ⟨#[]⟩, .string ⟨#[]⟩]
theorem eb_one : ∀ u ∈ eb.cells.toList, u.oneCell' = true := by
 intro u hu
 simp [Inst.cells] at hu
 rcases hu with rfl | rfl | rfl | rfl | rfl | rfl | rfl | rfl | rfl | rfl | rfl | rfl | rfl | rfl | rfl <;> rfl
theorem example11_any (w : World) (ht : Tabs w) : Calls Tryz.prog 44 #[] w fun e w' => e = .returned eb.enc ∧ Below w.heap.size w w' := by
 have HT := hI ht
 have HR1 := hI (fun W (hW : Tabs W) => ratio11_to 1000 1 1000 (by kernel_rfl) (by omega) (by omega) (by omega) (by omega) (by omega) W hW)
 have HR2 := hI (fun W (hW : Tabs W) => ratio11_to 6 100 (mkRat 3 50) (by kernel_rfl) (by omega) (by omega) (by omega) (by omega) (by omega) W hW)
 rw [show I (1000 : Rat).num = ⟨#[49, 48, 48, 48]⟩ from by kernel_rfl, show dn (1000 : Rat) = ⟨#[]⟩ from by kernel_rfl] at HR1
 rw [show I (mkRat 3 50).num = ⟨#[51]⟩ from by kernel_rfl, show dn (mkRat 3 50) = ⟨#[53, 48]⟩ from by kernel_rfl] at HR2
 obtain ⟨W0, hW0⟩ : ∃ W0, w.alloc (.cells instZeroB 27) = W0 := ⟨_, rfl⟩
 have HG0 : Hid (BX w [(w.heap.size, .cells instZeroB 27 (0, 0))] W0) := by show BX _ _ _; rw [← hW0]; exact BX.push (W := w) ⟨Below.refl _ _, fun _ h => by cases h⟩ _
 have HSZ := hI (fun W : World => (show (sizeOf 27).run Tryz.prog W = .ok 15 W from by kernel_rfl))
 clear ht
 go_enter Tryz.func44, Tryz.ntmps44
 go_wp2_with fail
 refine (day11_a _).mono ?_
 rintro e w1 ⟨rfl, b1⟩
 have HG1 := hI (HG0.out.below b1)
 clear b1 HG0 hW0
 go_wp2_with fail
 refine (day11_b _).mono ?_
 rintro e w2 ⟨rfl, b2⟩
 have HG2 := hI (HG1.out.below b2)
 clear b2 HG1
 go_wp2_with fail
 refine (HR1.out _ (HT.out.below HG2.out.1)).mono ?_
 rintro e w3 ⟨rfl, b3⟩
 have HG3 := hI (HG2.out.below b3)
 clear b3 HG2
 go_wp2_with fail
 refine (HR2.out _ (HT.out.below HG3.out.1)).mono ?_
 rintro e w4 ⟨rfl, b4⟩
 have HG4 := hI (HG3.out.below b4)
 clear b4 HG3
 have hrun := run_store_rowF w4 w.heap.size 15 27 instZeroB eb.cells (HSZ.out w4) (HG4.out.get 0 rfl) rfl rfl eb_one
 obtain ⟨W5, hW5⟩ : ∃ W5, w4.setRow w.heap.size eb.cells = W5 := ⟨_, rfl⟩
 have hk5 : W5.heap[w.heap.size]? = some (.cells eb.cells 27 (0, 0)) := by rw [← hW5]; exact setRow_heap _ _ _ _ _ _ (HG4.out.get 0 rfl)
 have HB5 : Hid (Below w.heap.size w W5) := by show Below _ _ _; rw [← hW5]; exact below_setRowF HG4.out.1 (Nat.le_refl _) _
 rw [hW5] at hrun
 have HK5 := hI hk5
 clear hW5 HG4 hk5
 unfold eb Inst.cells at hrun
 simp only at hrun
 go_wp2_with (refine wpList_store_runF hrun rfl _ _ rfl rfl rfl ?_)
 refine bodyPost_ret (results_cell_row rfl _ _ w.heap.size _ _ (0, 0) _ rfl HK5.out Tryz.underlying27 rfl (by kernel_rfl)) rfl ?_
 exact ⟨rfl, HB5.out⟩
structure WAV (w : World) (i : Inst) (bi g cp : Nat) (cur : Array Value) (qa qp qy : Rat) (m4 : Nat) (L : Array Bool) (W : World) (s4 s5 s17 s18 s19 s20 s21 s22 : Value) : Prop where
 k0 : L.getD 0 false = true → s18 = .agg #[.string i.id, .int .i64 i.kind, .string i.cur, .int .i64 i.places, .int .i64 i.issued, .int .i64 i.matures, .string i.fn, .string i.fd, .string i.cn, .string i.cd, .int .i64 i.months, .int .i64 i.count, .string i.other, .string i.sn, .string i.sd]
 k1 : L.getD 1 false = true → s19 = .int .i64 19828
 k2 : L.getD 2 false = true → s20 = .tuple #[.agg #[.string (I qa.num), .string (dn qa)], .int .i64 0]
 k3 : L.getD 3 false = true → s17 = .tuple #[.agg #[.string (I qa.num), .string (dn qa)], .int .i64 0]
 k4 : L.getD 4 false = true → s21 = .agg #[.string (I qa.num), .string (dn qa)]
 k5 : L.getD 5 false = true → s22 = .int .i64 0
 k6 : L.getD 6 false = true → s4 = .pointer (some ⟨m4, 0, none⟩)
 k8 : L.getD 8 false = true → s5 = .int .i64 0
 bx : BX w [(g, Obj.cells cur 43 (0, 0)), (bi, Obj.cells i.cells 27 (0, 0))] W
 o7 : L.getD 6 false = true → L.getD 7 false = false → W.heap[m4]? = some (fz)
 b7 : L.getD 6 false = true → w.heap.size ≤ m4 ∧ ∀ x, x ∈ [(g, Obj.cells cur 43 (0, 0)), (bi, Obj.cells i.cells 27 (0, 0))] → x.1 ≠ m4
 n7 : L.getD 7 false = true → W.heap[m4]? = some (fobj qa)
 q7 : L.getD 7 false = true → L.getD 6 false = true
structure WAJ (w : World) (i : Inst) (bi g cp : Nat) (cur : Array Value) (qa qp qy : Rat) (x0 x6 x7 x8 x9 x10 x11 x12 x13 x14 x15 x16 x23 x24 x25 x26 x27 x28 x29 x30 x31 x32 x33 x34 x35 x36 x37 x38 x39 x40 x41 x42 x43 x44 x45 x46 x47 x48 x49 x50 x51 x52 x53 x54 x55 x56 x57 x58 x59 x60 x61 x62 x63 x64 x65 x66 x67 x68 x69 x70 x71 x72 x73 x74 x75 x76 x77 x78 : Value) (L : Array Bool) (a : Act) (W : World) : Prop where
 sz : L.size = 9
 fr : ∃ m4 : Nat, ∃ s4 s5 s17 s18 s19 s20 s21 s22 : Value, a = { tmps := #[x0, .pointer (some ⟨bi, 0, none⟩), .slice (some ⟨g, 0, none⟩) 2 cp, .int .i64 0, s4, s5, x6, x7, x8, x9, x10, x11, x12, x13, x14, x15, x16, s17, s18, s19, s20, s21, s22, x23, x24, x25, x26, x27, x28, x29, x30, x31, x32, x33, x34, x35, x36, x37, x38, x39, x40, x41, x42, x43, x44, x45, x46, x47, x48, x49, x50, x51, x52, x53, x54, x55, x56, x57, x58, x59, x60, x61, x62, x63, x64, x65, x66, x67, x68, x69, x70, x71, x72, x73, x74, x75, x76, x77, x78], defers := [] } ∧ WAV w i bi g cp cur qa qp qy m4 L W s4 s5 s17 s18 s19 s20 s21 s22
structure WBV (w : World) (i : Inst) (bi g n4 cp : Nat) (cur : Array Value) (qa qp qy : Rat) (m4 : Nat) (L : Array Bool) (W : World) (s6 s7 s23 s24 s25 s26 s27 s28 s29 s30 : Value) : Prop where
 k0 : L.getD 0 false = true → s24 = .agg #[.string i.id, .int .i64 i.kind, .string i.cur, .int .i64 i.places, .int .i64 i.issued, .int .i64 i.matures, .string i.fn, .string i.fd, .string i.cn, .string i.cd, .int .i64 i.months, .int .i64 i.count, .string i.other, .string i.sn, .string i.sd]
 k1 : L.getD 1 false = true → s25 = .pointer (some ⟨bi, 4, none⟩)
 k2 : L.getD 2 false = true → s26 = .int .i64 i.issued
 k3 : L.getD 3 false = true → s27 = .agg #[.string (I qy.num), .string (dn qy)]
 k4 : L.getD 4 false = true → s28 = .tuple #[.agg #[.string (I qp.num), .string (dn qp)], .int .i64 0]
 k5 : L.getD 5 false = true → s23 = .tuple #[.agg #[.string (I qp.num), .string (dn qp)], .int .i64 0]
 k6 : L.getD 6 false = true → s29 = .agg #[.string (I qp.num), .string (dn qp)]
 k7 : L.getD 7 false = true → s30 = .int .i64 0
 k8 : L.getD 8 false = true → s6 = .pointer (some ⟨m4, 0, none⟩)
 k10 : L.getD 10 false = true → s7 = .int .i64 0
 bx : BX w ((n4, fobj qa) :: [(g, Obj.cells cur 43 (0, 0)), (bi, Obj.cells i.cells 27 (0, 0))]) W
 o9 : L.getD 8 false = true → L.getD 9 false = false → W.heap[m4]? = some (fz)
 b9 : L.getD 8 false = true → w.heap.size ≤ m4 ∧ ∀ x, x ∈ ((n4, fobj qa) :: [(g, Obj.cells cur 43 (0, 0)), (bi, Obj.cells i.cells 27 (0, 0))]) → x.1 ≠ m4
 n9 : L.getD 9 false = true → W.heap[m4]? = some (fobj qp)
 q9 : L.getD 9 false = true → L.getD 8 false = true
structure WBJ (w : World) (i : Inst) (bi g n4 cp : Nat) (cur : Array Value) (qa qp qy : Rat) (x0 x8 x9 x10 x11 x12 x13 x14 x15 x16 x17 x18 x19 x20 x21 x22 x31 x32 x33 x34 x35 x36 x37 x38 x39 x40 x41 x42 x43 x44 x45 x46 x47 x48 x49 x50 x51 x52 x53 x54 x55 x56 x57 x58 x59 x60 x61 x62 x63 x64 x65 x66 x67 x68 x69 x70 x71 x72 x73 x74 x75 x76 x77 x78 : Value) (L : Array Bool) (a : Act) (W : World) : Prop where
 sz : L.size = 11
 fr : ∃ m4 : Nat, ∃ s6 s7 s23 s24 s25 s26 s27 s28 s29 s30 : Value, a = { tmps := #[x0, .pointer (some ⟨bi, 0, none⟩), .slice (some ⟨g, 0, none⟩) 2 cp, .int .i64 0, .pointer (some ⟨n4, 0, none⟩), .int .i64 0, s6, s7, x8, x9, x10, x11, x12, x13, x14, x15, x16, x17, x18, x19, x20, x21, x22, s23, s24, s25, s26, s27, s28, s29, s30, x31, x32, x33, x34, x35, x36, x37, x38, x39, x40, x41, x42, x43, x44, x45, x46, x47, x48, x49, x50, x51, x52, x53, x54, x55, x56, x57, x58, x59, x60, x61, x62, x63, x64, x65, x66, x67, x68, x69, x70, x71, x72, x73, x74, x75, x76, x77, x78], defers := [] } ∧ WBV w i bi g n4 cp cur qa qp qy m4 L W s6 s7 s23 s24 s25 s26 s27 s28 s29 s30
structure WCV (w : World) (i : Inst) (bi g n4 n6 cp : Nat) (cur : Array Value) (qa qp qy : Rat) (m4 : Nat) (L : Array Bool) (W : World) (s8 s9 s31 s32 s33 s34 s35 s36 s37 : Value) : Prop where
 k0 : L.getD 0 false = true → s32 = .agg #[.string i.id, .int .i64 i.kind, .string i.cur, .int .i64 i.places, .int .i64 i.issued, .int .i64 i.matures, .string i.fn, .string i.fd, .string i.cn, .string i.cd, .int .i64 i.months, .int .i64 i.count, .string i.other, .string i.sn, .string i.sd]
 k1 : L.getD 1 false = true → s33 = .int .i64 19919
 k2 : L.getD 2 false = true → s34 = .agg #[.string (I qy.num), .string (dn qy)]
 k3 : L.getD 3 false = true → s35 = .tuple #[.agg #[.string (I qp.num), .string (dn qp)], .int .i64 0]
 k4 : L.getD 4 false = true → s31 = .tuple #[.agg #[.string (I qp.num), .string (dn qp)], .int .i64 0]
 k5 : L.getD 5 false = true → s36 = .agg #[.string (I qp.num), .string (dn qp)]
 k6 : L.getD 6 false = true → s37 = .int .i64 0
 k7 : L.getD 7 false = true → s8 = .pointer (some ⟨m4, 0, none⟩)
 k9 : L.getD 9 false = true → s9 = .int .i64 0
 bx : BX w ((n6, fobj qp) :: ((n4, fobj qa) :: [(g, Obj.cells cur 43 (0, 0)), (bi, Obj.cells i.cells 27 (0, 0))])) W
 o8 : L.getD 7 false = true → L.getD 8 false = false → W.heap[m4]? = some (fz)
 b8 : L.getD 7 false = true → w.heap.size ≤ m4 ∧ ∀ x, x ∈ ((n6, fobj qp) :: ((n4, fobj qa) :: [(g, Obj.cells cur 43 (0, 0)), (bi, Obj.cells i.cells 27 (0, 0))])) → x.1 ≠ m4
 n8 : L.getD 8 false = true → W.heap[m4]? = some (fobj qp)
 q8 : L.getD 8 false = true → L.getD 7 false = true
structure WCJ (w : World) (i : Inst) (bi g n4 n6 cp : Nat) (cur : Array Value) (qa qp qy : Rat) (x0 x10 x11 x12 x13 x14 x15 x16 x17 x18 x19 x20 x21 x22 x23 x24 x25 x26 x27 x28 x29 x30 x38 x39 x40 x41 x42 x43 x44 x45 x46 x47 x48 x49 x50 x51 x52 x53 x54 x55 x56 x57 x58 x59 x60 x61 x62 x63 x64 x65 x66 x67 x68 x69 x70 x71 x72 x73 x74 x75 x76 x77 x78 : Value) (L : Array Bool) (a : Act) (W : World) : Prop where
 sz : L.size = 10
 fr : ∃ m4 : Nat, ∃ s8 s9 s31 s32 s33 s34 s35 s36 s37 : Value, a = { tmps := #[x0, .pointer (some ⟨bi, 0, none⟩), .slice (some ⟨g, 0, none⟩) 2 cp, .int .i64 0, .pointer (some ⟨n4, 0, none⟩), .int .i64 0, .pointer (some ⟨n6, 0, none⟩), .int .i64 0, s8, s9, x10, x11, x12, x13, x14, x15, x16, x17, x18, x19, x20, x21, x22, x23, x24, x25, x26, x27, x28, x29, x30, s31, s32, s33, s34, s35, s36, s37, x38, x39, x40, x41, x42, x43, x44, x45, x46, x47, x48, x49, x50, x51, x52, x53, x54, x55, x56, x57, x58, x59, x60, x61, x62, x63, x64, x65, x66, x67, x68, x69, x70, x71, x72, x73, x74, x75, x76, x77, x78], defers := [] } ∧ WCV w i bi g n4 n6 cp cur qa qp qy m4 L W s8 s9 s31 s32 s33 s34 s35 s36 s37
structure WDV (w : World) (i : Inst) (bi g n4 n6 n8 cp : Nat) (cur : Array Value) (qa qp qy : Rat)  (L : Array Bool) (W : World) (s10 s38 s39 s40 s41 s42 s43 s44 s45 s46 s47 s48 s49 s50 s51 s52 s53 s54 s55 s56 s57 s58 s59 s60 s61 s62 s63 s64 s65 s66 : Value) : Prop where
 k0 : L.getD 0 false = true → s38 = .int .i64 0
 k1 : L.getD 1 false = true → s39 = .bool true
 k2 : L.getD 2 false = true → s40 = .bool true
 k3 : L.getD 3 false = true → s41 = .int .i64 0
 k4 : L.getD 4 false = true → s42 = .bool true
 k5 : L.getD 5 false = true → s43 = .bool true
 k6 : L.getD 6 false = true → s44 = .bool true
 k7 : L.getD 7 false = true → s45 = .int .i64 0
 k8 : L.getD 8 false = true → s46 = .bool true
 k9 : L.getD 9 false = true → s47 = .bool true
 k10 : L.getD 10 false = true → s48 = .bool true
 k11 : L.getD 11 false = true → s49 = .int .i64 0
 k12 : L.getD 12 false = true → s50 = .bool true
 k13 : L.getD 13 false = true → s51 = .bool true
 k14 : L.getD 14 false = true → s52 = .bool true
 k15 : L.getD 15 false = true → s53 = .agg #[.string (I qa.num), .string (dn qa)]
 k16 : L.getD 16 false = true → s54 = .agg #[.string (I qa.num), .string (dn qa)]
 k17 : L.getD 17 false = true → s55 = .bool true
 k18 : L.getD 18 false = true → s56 = .bool true
 k19 : L.getD 19 false = true → s57 = .bool true
 k20 : L.getD 20 false = true → s58 = .agg #[.string (I qp.num), .string (dn qp)]
 k21 : L.getD 21 false = true → s59 = .agg #[.string (I qp.num), .string (dn qp)]
 k22 : L.getD 22 false = true → s60 = .bool true
 k23 : L.getD 23 false = true → s61 = .bool true
 k24 : L.getD 24 false = true → s62 = .bool true
 k25 : L.getD 25 false = true → s63 = .agg #[.string (I qp.num), .string (dn qp)]
 k26 : L.getD 26 false = true → s64 = .agg #[.string (I qp.num), .string (dn qp)]
 k27 : L.getD 27 false = true → s65 = .bool true
 k28 : L.getD 28 false = true → s66 = .bool true
 k29 : L.getD 29 false = true → s10 = .bool true
 bx : BX w ((n8, fobj qp) :: ((n6, fobj qp) :: ((n4, fobj qa) :: [(g, Obj.cells cur 43 (0, 0)), (bi, Obj.cells i.cells 27 (0, 0))]))) W
structure WDJ (w : World) (i : Inst) (bi g n4 n6 n8 cp : Nat) (cur : Array Value) (qa qp qy : Rat) (x0 x11 x12 x13 x14 x15 x16 x17 x18 x19 x20 x21 x22 x23 x24 x25 x26 x27 x28 x29 x30 x31 x32 x33 x34 x35 x36 x37 x67 x68 x69 x70 x71 x72 x73 x74 x75 x76 x77 x78 : Value) (L : Array Bool) (a : Act) (W : World) : Prop where
 sz : L.size = 30
 fr : ∃ s10 s38 s39 s40 s41 s42 s43 s44 s45 s46 s47 s48 s49 s50 s51 s52 s53 s54 s55 s56 s57 s58 s59 s60 s61 s62 s63 s64 s65 s66 : Value, a = { tmps := #[x0, .pointer (some ⟨bi, 0, none⟩), .slice (some ⟨g, 0, none⟩) 2 cp, .int .i64 0, .pointer (some ⟨n4, 0, none⟩), .int .i64 0, .pointer (some ⟨n6, 0, none⟩), .int .i64 0, .pointer (some ⟨n8, 0, none⟩), .int .i64 0, s10, x11, x12, x13, x14, x15, x16, x17, x18, x19, x20, x21, x22, x23, x24, x25, x26, x27, x28, x29, x30, x31, x32, x33, x34, x35, x36, x37, s38, s39, s40, s41, s42, s43, s44, s45, s46, s47, s48, s49, s50, s51, s52, s53, s54, s55, s56, s57, s58, s59, s60, s61, s62, s63, s64, s65, s66, x67, x68, x69, x70, x71, x72, x73, x74, x75, x76, x77, x78], defers := [] } ∧ WDV w i bi g n4 n6 n8 cp cur qa qp qy  L W s10 s38 s39 s40 s41 s42 s43 s44 s45 s46 s47 s48 s49 s50 s51 s52 s53 s54 s55 s56 s57 s58 s59 s60 s61 s62 s63 s64 s65 s66
theorem awake11_any (w : World) (ht : Tabs w) : Calls Tryz.prog 11 #[] w fun e w' => e = .returned (.bool true) ∧ Below w.heap.size w w' := by
 have HT := hI ht
 have hx := example11_any w ht
 have hd0 : okDay 19828 := by unfold okDay; decide
 obtain ⟨qa, hqa⟩ : ∃ q : Rat, (15 : Rat) = q := ⟨_, rfl⟩
 obtain ⟨qp, hqp⟩ : ∃ q : Rat, (1000 : Rat) = q := ⟨_, rfl⟩
 obtain ⟨qy, hqy⟩ : ∃ q : Rat, mkRat 3 100 = q := ⟨_, rfl⟩
 obtain ⟨qf, hqf⟩ : ∃ q : Rat, (30 : Rat) = q := ⟨_, rfl⟩
 obtain ⟨qg, hqg⟩ : ∃ q : Rat, (1030 : Rat) = q := ⟨_, rfl⟩
 have hcy : CanQ (I qy.num) (dn qy) := by unfold CanQ; rw [fv_enc]; exact ⟨rfl, rfl⟩
 have hsy : (I qy.num).size ≤ 60 ∧ (dn qy).size ≤ 59 := by rw [← hqy]; exact ⟨by decide, by decide⟩
 have hpy : 0 < 1 + fv (I qy.num) (dn qy) := by rw [fv_enc, ← hqy]; decide +kernel
 have C1 := fun W (hW : Tabs W) => bAcc_few eb_ok eb_few (d := 19828) (by decide) (by decide) W hW
 have C2 := fun W (hW : Tabs W) => bPres_few eb_ok eb_few (d := eb.issued) (by decide) (by decide) (I qy.num) (dn qy) hsy.1 hsy.2 hcy hpy W hW
 have C3 := fun W (hW : Tabs W) => bPres_few eb_ok eb_few (d := 19919) (by decide) (by decide) (I qy.num) (dn qy) hsy.1 hsy.2 hcy hpy W hW
 have C4 := fun W (hW : Tabs W) => bFlows_few eb_ok eb_few W hW
 rw [eb_acc, hqa] at C1
 rw [fv_enc, if_neg (by decide), show eb.issued = 19737 from rfl, ← hqy, eb_pres0, hqy, hqp] at C2
 rw [fv_enc, if_neg (by decide), ← hqy, eb_pres1, hqy, hqp] at C3
 rw [eb_flows, hqf, hqg] at C4
 have C2' : ∀ W, Tabs W → Calls Tryz.prog 15 #[eb.enc, .int .i64 eb.issued, .agg #[.string (I qy.num), .string (dn qy)]] W fun e w' => e = .returned (.tuple #[fenc qp, .int .i64 0]) ∧ Below W.heap.size W w' := C2
 clear C2
 have HR15 := hI (fun W (hW : Tabs W) => ratio11_to 15 1 qa (by rw [← hqa]; kernel_rfl) (by omega) (by omega) (by omega) (by omega) (by omega) W hW)
 have HR1000 := hI (fun W (hW : Tabs W) => ratio11_to 1000 1 qp (by rw [← hqp]; kernel_rfl) (by omega) (by omega) (by omega) (by omega) (by omega) W hW)
 have HRY0 := hI (fun W (hW : Tabs W) => ratio11_to 3 100 qy (by rw [← hqy]; kernel_rfl) (by omega) (by omega) (by omega) (by omega) (by omega) W hW)
 have HRA := hI (fun W (hW : Tabs W) => ratio11_to 30 1 qf (by rw [← hqf]; kernel_rfl) (by omega) (by omega) (by omega) (by omega) (by omega) W hW)
 have HRB := hI (fun W (hW : Tabs W) => ratio11_to 1030 1 qg (by rw [← hqg]; kernel_rfl) (by omega) (by omega) (by omega) (by omega) (by omega) W hW)
 clear hqf hqg hqa hqp hqy hcy hsy hpy ht hd0
 generalize eb = i at hx C1 C2' C3 C4
 unfold fenc at C1 C2' C3
 unfold Inst.enc Inst.cells at hx C1 C2' C3 C4
 have HX := hI hx
 have H1 := hI C1
 have H2 := hI C2'
 have H3 := hI C3
 have H4 := hI C4
 clear hx C1 C2' C3 C4
 go_enter Tryz.func11, Tryz.ntmps11
 go_wp2_with fail
 refine HX.out.mono ?_
 rintro e w1 ⟨rfl, b1⟩
 have HB1 := hI b1
 clear b1 HX
 obtain ⟨W2, hW2, b2, hz2, k2⟩ := ibox i w1
 have HB2 := hI (HB1.out.trans (b2.mono HB1.out.size))
 obtain ⟨bi, hbi⟩ : ∃ bi, w1.heap.size = bi := ⟨_, rfl⟩
 rw [hbi] at k2
 have hwb : w.heap.size ≤ bi := by rw [← hbi]; exact HB1.out.size
 have c0 := Lib.cell_of_heap k2 0
 have c1 := Lib.cell_of_heap k2 1
 have c2 := Lib.cell_of_heap k2 2
 have c3 := Lib.cell_of_heap k2 3
 have c4 := Lib.cell_of_heap k2 4
 have c5 := Lib.cell_of_heap k2 5
 have c6 := Lib.cell_of_heap k2 6
 have c7 := Lib.cell_of_heap k2 7
 have c8 := Lib.cell_of_heap k2 8
 have c9 := Lib.cell_of_heap k2 9
 have c10 := Lib.cell_of_heap k2 10
 have c11 := Lib.cell_of_heap k2 11
 have c12 := Lib.cell_of_heap k2 12
 have c13 := Lib.cell_of_heap k2 13
 have c14 := Lib.cell_of_heap k2 14
 simp [Inst.cells] at c0 c1 c2 c3 c4 c5 c6 c7 c8 c9 c10 c11 c12 c13 c14
 have HK2 := hI k2
 unfold Inst.cells at hW2
 clear b2 hz2 k2
 go_wp2_with fail
 refine (H4.out W2 (HT.out.below HB2.out)).mono ?_
 rintro e w3 ⟨⟨g, cp, sp, rfl, _, hgb, hgr⟩, b3⟩
 obtain ⟨cur, hcur⟩ : ∃ cur, (flV [((19919 : Int), qf), (20103, qg)] ++ sp).toArray = cur := ⟨_, rfl⟩
 rw [hcur] at hgr
 have HCUR := hI hcur
 have HB3 := hI (HB2.out.trans (b3.mono HB2.out.size))
 have hg : BX w [(g, Obj.cells cur 43 (0, 0)), (bi, Obj.cells i.cells 27 (0, 0))] w3.drew := ⟨HB3.out.drew, fun z hz => by
  rcases List.mem_cons.1 hz with rfl | hz
  ·exact hgr
  ·rcases List.mem_cons.1 hz with rfl | hz
   ·show w3.heap[bi]? = _
    exact bkeep b3 HK2.out
   ·cases hz⟩
 have HDA : Hid (∀ W, BX w [(g, Obj.cells cur 43 (0, 0)), (bi, Obj.cells i.cells 27 (0, 0))] W → Calls Tryz.prog 45 #[.int .i64 2024, .int .i64 4, .int .i64 15] W fun e w' => e = .returned (.int .i64 19828) ∧ Below W.heap.size W w') := fun W _ => day11_c W
 have HAC : Hid (∀ W, BX w [(g, Obj.cells cur 43 (0, 0)), (bi, Obj.cells i.cells 27 (0, 0))] W → Calls Tryz.prog 14 #[.agg #[.string i.id, .int .i64 i.kind, .string i.cur, .int .i64 i.places, .int .i64 i.issued, .int .i64 i.matures, .string i.fn, .string i.fd, .string i.cn, .string i.cd, .int .i64 i.months, .int .i64 i.count, .string i.other, .string i.sn, .string i.sd], .int .i64 19828] W fun e w' => e = .returned (.tuple #[.agg #[.string (I qa.num), .string (dn qa)], .int .i64 0]) ∧ Below W.heap.size W w') := fun W hW => H1.out W (HT.out.below hW.1)
 clear b3 hgr hgb hcur hW2 HK2 hbi c0 c1 c2 c3 c4 c5 c6 c7 c8 c9 c10 c11 c12 c13 c14
 go_wp2_with fail
 have mixed : Tryz.prog.follows .mixedOrders = true := by kernel_rfl
 refine wp_region_any mixed (wpAny_inv (WAJ w i bi g cp cur qa qp qy _ _ _ _ _ _ _ _ _ _ _ _ _ _ _ _ _ _ _ _ _ _ _ _ _ _ _ _ _ _ _ _ _ _ _ _ _ _ _ _ _ _ _ _ _ _ _ _ _ _ _ _ _ _ _ _ _ _ _ _ _ _ _ _ _ _ _ _) ?stWA ?dnWA _ _ _ _ ⟨by simp, ⟨0, _, _, _, _, _, _, _, _, rfl, fun h => by simp at h, fun h => by simp at h, fun h => by simp at h, fun h => by simp at h, fun h => by simp at h, fun h => by simp at h, fun h => by simp at h, fun h => by simp at h, hg, fun h => by simp at h, fun h => by simp at h, fun h => by simp at h, fun h => by simp at h⟩⟩ (by decide))
 case dnWA =>
  intro L a w' hj hr
  have all := all_on hr hj.sz (by kernel_rfl)
  obtain ⟨m4, s4, s5, s17, s18, s19, s20, s21, s22, rfl, hv⟩ := hj.fr
  have HF4 := hI (And.intro (hv.n7 (all 7 (by omega))) (And.intro hv.bx (hv.b7 (all 6 (by omega)))))
  have es := hv.k6 (all 6 (by omega)); have ee := hv.k8 (all 8 (by omega))
  clear all hv hj hr
  subst es ee
  obtain ⟨n4, hm4⟩ : ∃ x, m4 = x := ⟨_, rfl⟩
  rw [hm4] at HF4 ⊢
  clear hm4
  have hg : BX w ((n4, fobj qa) :: [(g, Obj.cells cur 43 (0, 0)), (bi, Obj.cells i.cells 27 (0, 0))]) w'.drew := ⟨HF4.out.2.1.1.drew, fun x hx => by
   rcases List.mem_cons.1 hx with rfl | hx
   ·exact HF4.out.1
   ·exact HF4.out.2.1.2 x hx⟩
  have HRY : Hid (∀ W, BX w ((n4, fobj qa) :: [(g, Obj.cells cur 43 (0, 0)), (bi, Obj.cells i.cells 27 (0, 0))]) W → Calls Tryz.prog 10 #[.int .i64 3, .int .i64 100] W fun e w' => e = .returned (.agg #[.string (I qy.num), .string (dn qy)]) ∧ Below W.heap.size W w') := fun W hW => HRY0.out W (HT.out.below hW.1)
  have HPA : Hid (∀ W, BX w ((n4, fobj qa) :: [(g, Obj.cells cur 43 (0, 0)), (bi, Obj.cells i.cells 27 (0, 0))]) W → Calls Tryz.prog 15 #[.agg #[.string i.id, .int .i64 i.kind, .string i.cur, .int .i64 i.places, .int .i64 i.issued, .int .i64 i.matures, .string i.fn, .string i.fd, .string i.cn, .string i.cd, .int .i64 i.months, .int .i64 i.count, .string i.other, .string i.sn, .string i.sd], .int .i64 i.issued, .agg #[.string (I qy.num), .string (dn qy)]] W fun e w' => e = .returned (.tuple #[.agg #[.string (I qp.num), .string (dn qp)], .int .i64 0]) ∧ Below W.heap.size W w') := fun W hW => H2.out W (HT.out.below hW.1)
  clear HF4 HDA HAC
  go_wp2_with fail
  have mixed : Tryz.prog.follows .mixedOrders = true := by kernel_rfl
  refine wp_region_any mixed (wpAny_inv (WBJ w i bi g n4 cp cur qa qp qy _ _ _ _ _ _ _ _ _ _ _ _ _ _ _ _ _ _ _ _ _ _ _ _ _ _ _ _ _ _ _ _ _ _ _ _ _ _ _ _ _ _ _ _ _ _ _ _ _ _ _ _ _ _ _ _ _ _ _ _ _ _ _ _) ?stWB ?dnWB _ _ _ _ ⟨by simp, ⟨0, _, _, _, _, _, _, _, _, _, _, rfl, fun h => by simp at h, fun h => by simp at h, fun h => by simp at h, fun h => by simp at h, fun h => by simp at h, fun h => by simp at h, fun h => by simp at h, fun h => by simp at h, fun h => by simp at h, fun h => by simp at h, hg, fun h => by simp at h, fun h => by simp at h, fun h => by simp at h, fun h => by simp at h⟩⟩ (by decide))
  case dnWB =>
   intro L a w' hj hr
   have all := all_on hr hj.sz (by kernel_rfl)
   obtain ⟨m4, s6, s7, s23, s24, s25, s26, s27, s28, s29, s30, rfl, hv⟩ := hj.fr
   have HF5 := hI (And.intro (hv.n9 (all 9 (by omega))) (And.intro hv.bx (hv.b9 (all 8 (by omega)))))
   have es := hv.k8 (all 8 (by omega)); have ee := hv.k10 (all 10 (by omega))
   clear all hv hj hr
   subst es ee
   obtain ⟨n6, hm4⟩ : ∃ x, m4 = x := ⟨_, rfl⟩
   rw [hm4] at HF5 ⊢
   clear hm4
   have hg : BX w ((n6, fobj qp) :: ((n4, fobj qa) :: [(g, Obj.cells cur 43 (0, 0)), (bi, Obj.cells i.cells 27 (0, 0))])) w'.drew := ⟨HF5.out.2.1.1.drew, fun x hx => by
    rcases List.mem_cons.1 hx with rfl | hx
    ·exact HF5.out.1
    ·exact HF5.out.2.1.2 x hx⟩
   have HDB : Hid (∀ W, BX w ((n6, fobj qp) :: ((n4, fobj qa) :: [(g, Obj.cells cur 43 (0, 0)), (bi, Obj.cells i.cells 27 (0, 0))])) W → Calls Tryz.prog 45 #[.int .i64 2024, .int .i64 7, .int .i64 15] W fun e w' => e = .returned (.int .i64 19919) ∧ Below W.heap.size W w') := fun W _ => day11_d W
   have HRY5 : Hid (∀ W, BX w ((n6, fobj qp) :: ((n4, fobj qa) :: [(g, Obj.cells cur 43 (0, 0)), (bi, Obj.cells i.cells 27 (0, 0))])) W → Calls Tryz.prog 10 #[.int .i64 3, .int .i64 100] W fun e w' => e = .returned (.agg #[.string (I qy.num), .string (dn qy)]) ∧ Below W.heap.size W w') := fun W hW => HRY0.out W (HT.out.below hW.1)
   have HPB : Hid (∀ W, BX w ((n6, fobj qp) :: ((n4, fobj qa) :: [(g, Obj.cells cur 43 (0, 0)), (bi, Obj.cells i.cells 27 (0, 0))])) W → Calls Tryz.prog 15 #[.agg #[.string i.id, .int .i64 i.kind, .string i.cur, .int .i64 i.places, .int .i64 i.issued, .int .i64 i.matures, .string i.fn, .string i.fd, .string i.cn, .string i.cd, .int .i64 i.months, .int .i64 i.count, .string i.other, .string i.sn, .string i.sd], .int .i64 19919, .agg #[.string (I qy.num), .string (dn qy)]] W fun e w' => e = .returned (.tuple #[.agg #[.string (I qp.num), .string (dn qp)], .int .i64 0]) ∧ Below W.heap.size W w') := fun W hW => H3.out W (HT.out.below hW.1)
   clear HF5 HRY HPA
   go_wp2_with fail
   have mixed : Tryz.prog.follows .mixedOrders = true := by kernel_rfl
   refine wp_region_any mixed (wpAny_inv (WCJ w i bi g n4 n6 cp cur qa qp qy _ _ _ _ _ _ _ _ _ _ _ _ _ _ _ _ _ _ _ _ _ _ _ _ _ _ _ _ _ _ _ _ _ _ _ _ _ _ _ _ _ _ _ _ _ _ _ _ _ _ _ _ _ _ _ _ _ _ _ _ _ _ _) ?stWC ?dnWC _ _ _ _ ⟨by simp, ⟨0, _, _, _, _, _, _, _, _, _, rfl, fun h => by simp at h, fun h => by simp at h, fun h => by simp at h, fun h => by simp at h, fun h => by simp at h, fun h => by simp at h, fun h => by simp at h, fun h => by simp at h, fun h => by simp at h, hg, fun h => by simp at h, fun h => by simp at h, fun h => by simp at h, fun h => by simp at h⟩⟩ (by decide))
   case dnWC =>
    intro L a w' hj hr
    have all := all_on hr hj.sz (by kernel_rfl)
    obtain ⟨m4, s8, s9, s31, s32, s33, s34, s35, s36, s37, rfl, hv⟩ := hj.fr
    have HF6 := hI (And.intro (hv.n8 (all 8 (by omega))) (And.intro hv.bx (hv.b8 (all 7 (by omega)))))
    have es := hv.k7 (all 7 (by omega)); have ee := hv.k9 (all 9 (by omega))
    clear all hv hj hr
    subst es ee
    obtain ⟨n8, hm4⟩ : ∃ x, m4 = x := ⟨_, rfl⟩
    rw [hm4] at HF6 ⊢
    clear hm4
    have hg : BX w ((n8, fobj qp) :: ((n6, fobj qp) :: ((n4, fobj qa) :: [(g, Obj.cells cur 43 (0, 0)), (bi, Obj.cells i.cells 27 (0, 0))]))) w'.drew := ⟨HF6.out.2.1.1.drew, fun x hx => by
     rcases List.mem_cons.1 hx with rfl | hx
     ·exact HF6.out.1
     ·exact HF6.out.2.1.2 x hx⟩
    have HR15 : Hid (∀ W, BX w ((n8, fobj qp) :: ((n6, fobj qp) :: ((n4, fobj qa) :: [(g, Obj.cells cur 43 (0, 0)), (bi, Obj.cells i.cells 27 (0, 0))]))) W → Calls Tryz.prog 10 #[.int .i64 15, .int .i64 1] W fun e w' => e = .returned (.agg #[.string (I qa.num), .string (dn qa)]) ∧ Below W.heap.size W w') := fun W hW => HR15.out W (HT.out.below hW.1)
    have HR1000 : Hid (∀ W, BX w ((n8, fobj qp) :: ((n6, fobj qp) :: ((n4, fobj qa) :: [(g, Obj.cells cur 43 (0, 0)), (bi, Obj.cells i.cells 27 (0, 0))]))) W → Calls Tryz.prog 10 #[.int .i64 1000, .int .i64 1] W fun e w' => e = .returned (.agg #[.string (I qp.num), .string (dn qp)]) ∧ Below W.heap.size W w') := fun W hW => HR1000.out W (HT.out.below hW.1)
    clear HF6 HDB HRY5 HPB
    go_wp2_with fail
    have mixed : Tryz.prog.follows .mixedOrders = true := by kernel_rfl
    refine wp_region_any mixed (wpAny_inv (WDJ w i bi g n4 n6 n8 cp cur qa qp qy _ _ _ _ _ _ _ _ _ _ _ _ _ _ _ _ _ _ _ _ _ _ _ _ _ _ _ _ _ _ _ _ _ _ _ _ _ _ _ _) ?stWD ?dnWD _ _ _ _ ⟨by simp, ⟨_, _, _, _, _, _, _, _, _, _, _, _, _, _, _, _, _, _, _, _, _, _, _, _, _, _, _, _, _, _, rfl, fun h => by simp at h, fun h => by simp at h, fun h => by simp at h, fun h => by simp at h, fun h => by simp at h, fun h => by simp at h, fun h => by simp at h, fun h => by simp at h, fun h => by simp at h, fun h => by simp at h, fun h => by simp at h, fun h => by simp at h, fun h => by simp at h, fun h => by simp at h, fun h => by simp at h, fun h => by simp at h, fun h => by simp at h, fun h => by simp at h, fun h => by simp at h, fun h => by simp at h, fun h => by simp at h, fun h => by simp at h, fun h => by simp at h, fun h => by simp at h, fun h => by simp at h, fun h => by simp at h, fun h => by simp at h, fun h => by simp at h, fun h => by simp at h, fun h => by simp at h, hg⟩⟩ (by decide))
    case dnWD =>
     intro L a w' hj hr
     have all := all_on hr hj.sz (by kernel_rfl)
     obtain ⟨s10, s38, s39, s40, s41, s42, s43, s44, s45, s46, s47, s48, s49, s50, s51, s52, s53, s54, s55, s56, s57, s58, s59, s60, s61, s62, s63, s64, s65, s66, rfl, hv⟩ := hj.fr
     have HF7 := hI hv.bx
     have es := hv.k29 (all 29 (by omega))
     clear all hv hj hr
     subst es
     have HG7 := hI (show BX w ((n8, fobj qp) :: ((n6, fobj qp) :: ((n4, fobj qa) :: [(g, Obj.cells cur 43 (0, 0)), (bi, Obj.cells i.cells 27 (0, 0))]))) w' from HF7.out)
     clear HF7 HR15 HR1000
     go_wp2_with fail
     refine (day11_d _).mono ?_
     rintro e w8 ⟨rfl, b8⟩
     have HG8 := hI (HG7.out.below b8)
     clear b8 HG7
     go_wp2_with fail
     refine (HRA.out _ (HT.out.below HG8.out.1)).mono ?_
     rintro e w9 ⟨rfl, b9⟩
     have HG9 := hI (HG8.out.below b9)
     clear b9 HG8
     go_wp2_with fail
     refine (day11_b _).mono ?_
     rintro e wa ⟨rfl, ba⟩
     have HGa := hI (HG9.out.below ba)
     clear ba HG9
     go_wp2_with fail
     refine (HRB.out _ (HT.out.below HGa.out.1)).mono ?_
     rintro e wb ⟨rfl, bb⟩
     have HGb := hI (HGa.out.below bb)
     clear bb HGa
     obtain ⟨Wc, hWc⟩ : ∃ Wc, wb.alloc (.cells #[.int .i64 19919, .string (I qf.num), .string (dn qf), .int .i64 20103, .string (I qg.num), .string (dn qg)] 43) = Wc := ⟨_, rfl⟩
     have HGc : Hid (BX w ((wb.heap.size, .cells #[.int .i64 19919, .string (I qf.num), .string (dn qf), .int .i64 20103, .string (I qg.num), .string (dn qg)] 43 (0, 0)) :: ((n8, fobj qp) :: ((n6, fobj qp) :: ((n4, fobj qa) :: [(g, Obj.cells cur 43 (0, 0)), (bi, Obj.cells i.cells 27 (0, 0))])))) Wc) := by show BX _ _ _; rw [← hWc]; exact HGb.out.push _
     have r1 : RdFw Wc.heap.size Wc (some ⟨g, 0, none⟩) [((19919 : Int), qf), (20103, qg)] := rdfw_row (sp := sp) (by rw [HCUR.out]; exact HGc.out.get 4 rfl)
     have r2 : RdFw Wc.heap.size Wc (some ⟨wb.heap.size, 0, none⟩) [((19919 : Int), qf), (20103, qg)] := rdfw_row (sp := []) (HGc.out.get 0 rfl)
     have heq := eqFlows_any _ _ _ _ cp 2 (by show 2 ≤ _; omega) (by show 2 ≤ _; omega) _ _ Wc r1 r2
     rw [sameB_yes rfl] at heq
     have HEQ : Hid (Calls Tryz.prog 46 #[.slice (some ⟨g, 0, none⟩) 2 cp, .slice (some ⟨wb.heap.size, 0, none⟩) 2 2] Wc fun e w' => e = .returned (.bool true) ∧ ∃ m, w' = Wc.drewN m) := heq
     clear heq
     clear r1 r2
     go_wp2_with fail
     refine HEQ.out.mono ?_
     rintro e wd ⟨rfl, m, rfl⟩
     go_wp2_with fail
     go_ret
     exact ⟨rfl, below_drewN HGc.out.1 _⟩
    case stWD =>
     intro L a w' hj i hi
     obtain ⟨hun, o, ho, hall⟩ := mem_ready.1 hi
     have hoff := getD_off hun
     have hlt := (Array.getElem?_eq_some_iff.1 ho).1
     simp at hlt
     obtain ⟨s10, s38, s39, s40, s41, s42, s43, s44, s45, s46, s47, s48, s49, s50, s51, s52, s53, s54, s55, s56, s57, s58, s59, s60, s61, s62, s63, s64, s65, s66, rfl, hv⟩ := hj.fr
     have HV := hI hv
     have HJ := hI hj
     clear hv hj
     rcases (show i = 0 ∨ i = 1 ∨ i = 2 ∨ i = 3 ∨ i = 4 ∨ i = 5 ∨ i = 6 ∨ i = 7 ∨ i = 8 ∨ i = 9 ∨ i = 10 ∨ i = 11 ∨ i = 12 ∨ i = 13 ∨ i = 14 ∨ i = 15 ∨ i = 16 ∨ i = 17 ∨ i = 18 ∨ i = 19 ∨ i = 20 ∨ i = 21 ∨ i = 22 ∨ i = 23 ∨ i = 24 ∨ i = 25 ∨ i = 26 ∨ i = 27 ∨ i = 28 ∨ i = 29 from by omega) with rfl | rfl | rfl | rfl | rfl | rfl | rfl | rfl | rfl | rfl | rfl | rfl | rfl | rfl | rfl | rfl | rfl | rfl | rfl | rfl | rfl | rfl | rfl | rfl | rfl | rfl | rfl | rfl | rfl | rfl
     all_goals simp at ho
     all_goals subst ho
     rotate_left
     cases HV.out.k0 (Hq hall 0).out
     rotate_left
     cases HV.out.k1 (Hq hall 1).out
     rotate_left
     cases HV.out.k2 (Hq hall 2).out
     rotate_left
     cases HV.out.k3 (Hq hall 3).out
     cases HV.out.k2 (Hq hall 2).out
     rotate_left
     cases HV.out.k2 (Hq hall 2).out
     cases HV.out.k4 (Hq hall 4).out
     rotate_left
     cases HV.out.k5 (Hq hall 5).out
     rotate_left
     cases HV.out.k6 (Hq hall 6).out
     rotate_left
     cases HV.out.k7 (Hq hall 7).out
     cases HV.out.k6 (Hq hall 6).out
     rotate_left
     cases HV.out.k6 (Hq hall 6).out
     cases HV.out.k8 (Hq hall 8).out
     rotate_left
     cases HV.out.k9 (Hq hall 9).out
     rotate_left
     cases HV.out.k10 (Hq hall 10).out
     rotate_left
     cases HV.out.k11 (Hq hall 11).out
     cases HV.out.k10 (Hq hall 10).out
     rotate_left
     cases HV.out.k10 (Hq hall 10).out
     cases HV.out.k12 (Hq hall 12).out
     rotate_left
     cases HV.out.k13 (Hq hall 13).out
     rotate_left
     cases HV.out.k14 (Hq hall 14).out
     have hb := HV.out.bx.get 2 rfl; have c0 := Lib.cell_of_heap hb 0; have c1 := Lib.cell_of_heap hb 1
     simp at c0 c1
     rotate_left
     ·cases HV.out.k14 (Hq hall 14).out
      clear hall hi
      refine wpOp_hid rfl fun K' HK => ?_
      go_simp
      refine (HR15.out _ HV.out.bx).mono ?_
      rintro e wn ⟨rfl, hbn⟩
      cases HV.out
      refine HK.out _ _ ⟨by simp [HJ.out.sz], ?_⟩
      iterate 30 apply Exists.intro
      refine ⟨rfl, ?_⟩
      constructor
      case k16 => exact fun _ => rfl
      case bx => exact HV.out.bx.below hbn
      all_goals exact Um (by assumption)
     cases HV.out.k15 (Hq hall 15).out
     cases HV.out.k16 (Hq hall 16).out
     cases HV.out.k14 (Hq hall 14).out
     have hq := run_eql_self (I qa.num) (dn qa)
     rotate_left
     cases HV.out.k14 (Hq hall 14).out
     cases HV.out.k17 (Hq hall 17).out
     rotate_left
     cases HV.out.k18 (Hq hall 18).out
     rotate_left
     cases HV.out.k19 (Hq hall 19).out
     have hb := HV.out.bx.get 1 rfl; have c0 := Lib.cell_of_heap hb 0; have c1 := Lib.cell_of_heap hb 1
     simp at c0 c1
     rotate_left
     ·cases HV.out.k19 (Hq hall 19).out
      clear hall hi
      refine wpOp_hid rfl fun K' HK => ?_
      go_simp
      refine (HR1000.out _ HV.out.bx).mono ?_
      rintro e wn ⟨rfl, hbn⟩
      cases HV.out
      refine HK.out _ _ ⟨by simp [HJ.out.sz], ?_⟩
      iterate 30 apply Exists.intro
      refine ⟨rfl, ?_⟩
      constructor
      case k21 => exact fun _ => rfl
      case bx => exact HV.out.bx.below hbn
      all_goals exact Um (by assumption)
     cases HV.out.k20 (Hq hall 20).out
     cases HV.out.k21 (Hq hall 21).out
     cases HV.out.k19 (Hq hall 19).out
     have hq := run_eql_self (I qp.num) (dn qp)
     rotate_left
     cases HV.out.k19 (Hq hall 19).out
     cases HV.out.k22 (Hq hall 22).out
     rotate_left
     cases HV.out.k23 (Hq hall 23).out
     rotate_left
     cases HV.out.k24 (Hq hall 24).out
     have hb := HV.out.bx.get 0 rfl; have c0 := Lib.cell_of_heap hb 0; have c1 := Lib.cell_of_heap hb 1
     simp at c0 c1
     rotate_left
     cases HV.out.k24 (Hq hall 24).out
     have hb := HV.out.bx.get 1 rfl; have c0 := Lib.cell_of_heap hb 0; have c1 := Lib.cell_of_heap hb 1
     simp at c0 c1
     rotate_left
     cases HV.out.k25 (Hq hall 25).out
     cases HV.out.k26 (Hq hall 26).out
     cases HV.out.k24 (Hq hall 24).out
     have hq := run_eql_self (I qp.num) (dn qp)
     rotate_left
     cases HV.out.k24 (Hq hall 24).out
     cases HV.out.k27 (Hq hall 27).out
     rotate_left
     cases HV.out.k28 (Hq hall 28).out
     rotate_left
     all_goals
      clear hall hi
      refine wpOp_hid rfl fun K' HK => ?_
      go_simp
      cases HV.out
      refine HK.out _ _ ⟨by simp [HJ.out.sz], ?_⟩
      iterate 30 apply Exists.intro
      refine ⟨rfl, ?_⟩
      constructor
      all_goals first | exact Um (by assumption) | exact Un (by assumption) | exact Uf (by assumption) | exact fun _ => rfl | assumption
   case stWC =>
    intro L a w' hj i hi
    obtain ⟨hun, o, ho, hall⟩ := mem_ready.1 hi
    have hoff := getD_off hun
    have hlt := (Array.getElem?_eq_some_iff.1 ho).1
    simp at hlt
    obtain ⟨m4, s8, s9, s31, s32, s33, s34, s35, s36, s37, rfl, hv⟩ := hj.fr
    have HV := hI hv
    have HJ := hI hj
    clear hv hj
    rcases (show i = 0 ∨ i = 1 ∨ i = 2 ∨ i = 3 ∨ i = 4 ∨ i = 5 ∨ i = 6 ∨ i = 7 ∨ i = 8 ∨ i = 9 from by omega) with rfl | rfl | rfl | rfl | rfl | rfl | rfl | rfl | rfl | rfl
    ·simp at ho
     subst ho
     clear hall hi
     have hb := HV.out.bx.get 3 rfl
     have c0 := Lib.cell_of_heap hb 0; have c1 := Lib.cell_of_heap hb 1; have c2 := Lib.cell_of_heap hb 2; have c3 := Lib.cell_of_heap hb 3; have c4 := Lib.cell_of_heap hb 4; have c5 := Lib.cell_of_heap hb 5; have c6 := Lib.cell_of_heap hb 6; have c7 := Lib.cell_of_heap hb 7; have c8 := Lib.cell_of_heap hb 8; have c9 := Lib.cell_of_heap hb 9; have c10 := Lib.cell_of_heap hb 10; have c11 := Lib.cell_of_heap hb 11; have c12 := Lib.cell_of_heap hb 12; have c13 := Lib.cell_of_heap hb 13; have c14 := Lib.cell_of_heap hb 14
     simp [Inst.cells] at c0 c1 c2 c3 c4 c5 c6 c7 c8 c9 c10 c11 c12 c13 c14
     refine wpOp_hid rfl fun K' HK => ?_
     go_simp
     cases HV.out
     refine HK.out _ _ ⟨by simp [HJ.out.sz], ?_⟩
     iterate 10 apply Exists.intro
     refine ⟨rfl, ?_⟩
     constructor
     case k0 => exact fun _ => rfl
     case bx => exact HV.out.bx
     case o8 => exact fun h0 h1 => HV.out.o8 (getD_dn (by decide) h0) (getD_df (by decide) h1)
     case q8 => exact fun h => getD_up hun (HV.out.q8 (getD_dn (by decide) h))
     all_goals exact Um (by assumption)
    ·simp at ho
     subst ho
     clear hall hi
     refine wpOp_hid rfl fun K' HK => ?_
     go_simp
     refine (HDB.out _ HV.out.bx).mono ?_
     rintro e wn ⟨rfl, hbn⟩
     cases HV.out
     refine HK.out _ _ ⟨by simp [HJ.out.sz], ?_⟩
     iterate 10 apply Exists.intro
     refine ⟨rfl, ?_⟩
     constructor
     case k1 => exact fun _ => rfl
     case bx => exact HV.out.bx.below hbn
     case o8 => exact fun h j => bkeep hbn (HV.out.o8 (getD_dn (by decide) h) (getD_df (by decide) j))
     case n8 => exact fun h => bkeep hbn (HV.out.n8 (getD_dn (by decide) h))
     case q8 => exact fun h => getD_up hun (HV.out.q8 (getD_dn (by decide) h))
     all_goals exact Um (by assumption)
    ·simp at ho
     subst ho
     clear hall hi
     refine wpOp_hid rfl fun K' HK => ?_
     go_simp
     refine (HRY5.out _ HV.out.bx).mono ?_
     rintro e wn ⟨rfl, hbn⟩
     cases HV.out
     refine HK.out _ _ ⟨by simp [HJ.out.sz], ?_⟩
     iterate 10 apply Exists.intro
     refine ⟨rfl, ?_⟩
     constructor
     case k2 => exact fun _ => rfl
     case bx => exact HV.out.bx.below hbn
     case o8 => exact fun h j => bkeep hbn (HV.out.o8 (getD_dn (by decide) h) (getD_df (by decide) j))
     case n8 => exact fun h => bkeep hbn (HV.out.n8 (getD_dn (by decide) h))
     case q8 => exact fun h => getD_up hun (HV.out.q8 (getD_dn (by decide) h))
     all_goals exact Um (by assumption)
    ·simp at ho
     subst ho
     have h0x : L.getD 0 false = true := hall { on := 0, ground := Ground.data } (by simp) (by decide)
     have h1x : L.getD 1 false = true := hall { on := 1, ground := Ground.data } (by simp) (by decide)
     have h2x : L.getD 2 false = true := hall { on := 2, ground := Ground.data } (by simp) (by decide)
     have H0 := hI h0x
     have H1 := hI h1x
     have H2 := hI h2x
     clear hall hi h0x h1x h2x
     have e0 := HV.out.k0 H0.out
     subst e0
     have e1 := HV.out.k1 H1.out
     subst e1
     have e2 := HV.out.k2 H2.out
     subst e2
     refine wpOp_hid rfl fun K' HK => ?_
     go_simp
     refine (HPB.out _ HV.out.bx).mono ?_
     rintro e wn ⟨rfl, hbn⟩
     cases HV.out
     refine HK.out _ _ ⟨by simp [HJ.out.sz], ?_⟩
     iterate 10 apply Exists.intro
     refine ⟨rfl, ?_⟩
     constructor
     case k3 => exact fun _ => rfl
     case bx => exact HV.out.bx.below hbn
     case o8 => exact fun h j => bkeep hbn (HV.out.o8 (getD_dn (by decide) h) (getD_df (by decide) j))
     case n8 => exact fun h => bkeep hbn (HV.out.n8 (getD_dn (by decide) h))
     case q8 => exact fun h => getD_up hun (HV.out.q8 (getD_dn (by decide) h))
     all_goals exact Um (by assumption)
    ·simp at ho
     subst ho
     have h3x : L.getD 3 false = true := hall { on := 3, ground := Ground.data } (by simp) (by decide)
     have H3 := hI h3x
     clear hall hi h3x
     have e0 := HV.out.k3 H3.out
     subst e0
     refine wpOp_hid rfl fun K' HK => ?_
     go_simp
     cases HV.out
     refine HK.out _ _ ⟨by simp [HJ.out.sz], ?_⟩
     iterate 10 apply Exists.intro
     refine ⟨rfl, ?_⟩
     constructor
     case k4 => exact fun _ => rfl
     case bx => exact HV.out.bx
     case o8 => exact fun h0 h1 => HV.out.o8 (getD_dn (by decide) h0) (getD_df (by decide) h1)
     case q8 => exact fun h => getD_up hun (HV.out.q8 (getD_dn (by decide) h))
     all_goals exact Um (by assumption)
    ·simp at ho
     subst ho
     have h4x : L.getD 4 false = true := hall { on := 4, ground := Ground.data } (by simp) (by decide)
     have H4 := hI h4x
     clear hall hi h4x
     have e0 := HV.out.k4 H4.out
     subst e0
     refine wpOp_hid rfl fun K' HK => ?_
     go_simp
     cases HV.out
     refine HK.out _ _ ⟨by simp [HJ.out.sz], ?_⟩
     iterate 10 apply Exists.intro
     refine ⟨rfl, ?_⟩
     constructor
     case k5 => exact fun _ => rfl
     case bx => exact HV.out.bx
     case o8 => exact fun h0 h1 => HV.out.o8 (getD_dn (by decide) h0) (getD_df (by decide) h1)
     case q8 => exact fun h => getD_up hun (HV.out.q8 (getD_dn (by decide) h))
     all_goals exact Um (by assumption)
    ·simp at ho
     subst ho
     have h4x : L.getD 4 false = true := hall { on := 4, ground := Ground.data } (by simp) (by decide)
     have H4 := hI h4x
     clear hall hi h4x
     have e0 := HV.out.k4 H4.out
     subst e0
     refine wpOp_hid rfl fun K' HK => ?_
     go_simp
     cases HV.out
     refine HK.out _ _ ⟨by simp [HJ.out.sz], ?_⟩
     iterate 10 apply Exists.intro
     refine ⟨rfl, ?_⟩
     constructor
     case k6 => exact fun _ => rfl
     case bx => exact HV.out.bx
     case o8 => exact fun h0 h1 => HV.out.o8 (getD_dn (by decide) h0) (getD_df (by decide) h1)
     case q8 => exact fun h => getD_up hun (HV.out.q8 (getD_dn (by decide) h))
     all_goals exact Um (by assumption)
    ·simp at ho
     subst ho
     clear hall hi
     refine wpOp_hid rfl fun K' HK => ?_
     go_simp
     cases HV.out
     refine HK.out _ _ ⟨by simp [HJ.out.sz], w'.heap.size, ?_⟩
     iterate 9 apply Exists.intro
     refine ⟨rfl, ?_⟩
     constructor
     case k7 => exact fun _ => rfl
     case bx => exact HV.out.bx.below ((Below.refl _ w').alloc (Nat.le_refl _) _)
     case o8 => exact fun _ _ => heap_alloc_new w' _
     case b8 => exact fun _ => ⟨HV.out.bx.1.size, fun x hx e => by have := (Array.getElem?_eq_some_iff.1 (HV.out.bx.2 x hx)).1; omega⟩
     case n8 => exact fun h => (not_on hoff (HV.out.q8 (getD_dn (by decide) h))).elim
     case q8 => exact fun h => getD_up hun (HV.out.q8 (getD_dn (by decide) h))
     all_goals exact Um (by assumption)
    ·simp at ho
     subst ho
     have h7x : L.getD 7 false = true := hall { on := 7, ground := Ground.data } (by simp) (by decide)
     have h5x : L.getD 5 false = true := hall { on := 5, ground := Ground.data } (by simp) (by decide)
     have H7 := hI h7x
     have H5 := hI h5x
     clear hall hi h7x h5x
     have e0 := HV.out.k7 H7.out
     subst e0
     have e1 := HV.out.k5 H5.out
     subst e1
     have hko := HV.out.o8 H7.out hoff
     have m0 := Lib.cell_of_heap hko 0; have m1 := Lib.cell_of_heap hko 1; have f0 := Lib.frozen_of_heap hko 0; have f1 := Lib.frozen_of_heap hko 1
     simp at m0 m1 f0 f1
     refine wpOp_hid rfl fun K' HK => ?_
     go_simp
     cases HV.out
     refine HK.out _ _ ⟨by simp [HJ.out.sz], ?_⟩
     iterate 10 apply Exists.intro
     refine ⟨rfl, ?_⟩
     constructor
     case bx => exact HV.out.bx.far (b := m4) (HV.out.b8 H7.out).1 (HV.out.b8 H7.out).2 _ _
     case o8 => exact fun _ h => (not_on h (getD_set_same hun)).elim
     case b8 => exact fun _ => HV.out.b8 H7.out
     case n8 => exact fun _ => set2 hko _ _
     case q8 => exact fun _ => getD_up hun H7.out
     all_goals exact Um (by assumption)
    ·simp at ho
     subst ho
     have h6x : L.getD 6 false = true := hall { on := 6, ground := Ground.data } (by simp) (by decide)
     have H6 := hI h6x
     clear hall hi h6x
     have e0 := HV.out.k6 H6.out
     subst e0
     refine wpOp_hid rfl fun K' HK => ?_
     go_simp
     cases HV.out
     refine HK.out _ _ ⟨by simp [HJ.out.sz], ?_⟩
     iterate 10 apply Exists.intro
     refine ⟨rfl, ?_⟩
     constructor
     case k9 => exact fun _ => rfl
     case bx => exact HV.out.bx
     case o8 => exact fun h0 h1 => HV.out.o8 (getD_dn (by decide) h0) (getD_df (by decide) h1)
     case q8 => exact fun h => getD_up hun (HV.out.q8 (getD_dn (by decide) h))
     all_goals exact Um (by assumption)
  case stWB =>
   intro L a w' hj i hi
   obtain ⟨hun, o, ho, hall⟩ := mem_ready.1 hi
   have hoff := getD_off hun
   have hlt := (Array.getElem?_eq_some_iff.1 ho).1
   simp at hlt
   obtain ⟨m4, s6, s7, s23, s24, s25, s26, s27, s28, s29, s30, rfl, hv⟩ := hj.fr
   have HV := hI hv
   have HJ := hI hj
   clear hv hj
   rcases (show i = 0 ∨ i = 1 ∨ i = 2 ∨ i = 3 ∨ i = 4 ∨ i = 5 ∨ i = 6 ∨ i = 7 ∨ i = 8 ∨ i = 9 ∨ i = 10 from by omega) with rfl | rfl | rfl | rfl | rfl | rfl | rfl | rfl | rfl | rfl | rfl
   ·simp at ho
    subst ho
    clear hall hi
    have hb := HV.out.bx.get 2 rfl
    have c0 := Lib.cell_of_heap hb 0; have c1 := Lib.cell_of_heap hb 1; have c2 := Lib.cell_of_heap hb 2; have c3 := Lib.cell_of_heap hb 3; have c4 := Lib.cell_of_heap hb 4; have c5 := Lib.cell_of_heap hb 5; have c6 := Lib.cell_of_heap hb 6; have c7 := Lib.cell_of_heap hb 7; have c8 := Lib.cell_of_heap hb 8; have c9 := Lib.cell_of_heap hb 9; have c10 := Lib.cell_of_heap hb 10; have c11 := Lib.cell_of_heap hb 11; have c12 := Lib.cell_of_heap hb 12; have c13 := Lib.cell_of_heap hb 13; have c14 := Lib.cell_of_heap hb 14
    simp [Inst.cells] at c0 c1 c2 c3 c4 c5 c6 c7 c8 c9 c10 c11 c12 c13 c14
    refine wpOp_hid rfl fun K' HK => ?_
    go_simp
    cases HV.out
    refine HK.out _ _ ⟨by simp [HJ.out.sz], ?_⟩
    iterate 11 apply Exists.intro
    refine ⟨rfl, ?_⟩
    constructor
    case k0 => exact fun _ => rfl
    case bx => exact HV.out.bx
    case o9 => exact fun h0 h1 => HV.out.o9 (getD_dn (by decide) h0) (getD_df (by decide) h1)
    case q9 => exact fun h => getD_up hun (HV.out.q9 (getD_dn (by decide) h))
    all_goals exact Um (by assumption)
   ·simp at ho
    subst ho
    clear hall hi
    refine wpOp_hid rfl fun K' HK => ?_
    go_simp
    cases HV.out
    refine HK.out _ _ ⟨by simp [HJ.out.sz], ?_⟩
    iterate 11 apply Exists.intro
    refine ⟨rfl, ?_⟩
    constructor
    case k1 => exact fun _ => rfl
    case bx => exact HV.out.bx
    case o9 => exact fun h0 h1 => HV.out.o9 (getD_dn (by decide) h0) (getD_df (by decide) h1)
    case q9 => exact fun h => getD_up hun (HV.out.q9 (getD_dn (by decide) h))
    all_goals exact Um (by assumption)
   ·simp at ho
    subst ho
    have h1x : L.getD 1 false = true := hall { on := 1, ground := Ground.data } (by simp) (by decide)
    have H1 := hI h1x
    clear hall hi h1x
    have e0 := HV.out.k1 H1.out
    subst e0
    have hb := HV.out.bx.get 2 rfl
    have c0 := Lib.cell_of_heap hb 0; have c1 := Lib.cell_of_heap hb 1; have c2 := Lib.cell_of_heap hb 2; have c3 := Lib.cell_of_heap hb 3; have c4 := Lib.cell_of_heap hb 4; have c5 := Lib.cell_of_heap hb 5; have c6 := Lib.cell_of_heap hb 6; have c7 := Lib.cell_of_heap hb 7; have c8 := Lib.cell_of_heap hb 8; have c9 := Lib.cell_of_heap hb 9; have c10 := Lib.cell_of_heap hb 10; have c11 := Lib.cell_of_heap hb 11; have c12 := Lib.cell_of_heap hb 12; have c13 := Lib.cell_of_heap hb 13; have c14 := Lib.cell_of_heap hb 14
    simp [Inst.cells] at c0 c1 c2 c3 c4 c5 c6 c7 c8 c9 c10 c11 c12 c13 c14
    refine wpOp_hid rfl fun K' HK => ?_
    go_simp
    cases HV.out
    refine HK.out _ _ ⟨by simp [HJ.out.sz], ?_⟩
    iterate 11 apply Exists.intro
    refine ⟨rfl, ?_⟩
    constructor
    case k2 => exact fun _ => rfl
    case bx => exact HV.out.bx
    case o9 => exact fun h0 h1 => HV.out.o9 (getD_dn (by decide) h0) (getD_df (by decide) h1)
    case q9 => exact fun h => getD_up hun (HV.out.q9 (getD_dn (by decide) h))
    all_goals exact Um (by assumption)
   ·simp at ho
    subst ho
    clear hall hi
    refine wpOp_hid rfl fun K' HK => ?_
    go_simp
    refine (HRY.out _ HV.out.bx).mono ?_
    rintro e wn ⟨rfl, hbn⟩
    cases HV.out
    refine HK.out _ _ ⟨by simp [HJ.out.sz], ?_⟩
    iterate 11 apply Exists.intro
    refine ⟨rfl, ?_⟩
    constructor
    case k3 => exact fun _ => rfl
    case bx => exact HV.out.bx.below hbn
    case o9 => exact fun h j => bkeep hbn (HV.out.o9 (getD_dn (by decide) h) (getD_df (by decide) j))
    case n9 => exact fun h => bkeep hbn (HV.out.n9 (getD_dn (by decide) h))
    case q9 => exact fun h => getD_up hun (HV.out.q9 (getD_dn (by decide) h))
    all_goals exact Um (by assumption)
   ·simp at ho
    subst ho
    have h0x : L.getD 0 false = true := hall { on := 0, ground := Ground.data } (by simp) (by decide)
    have h2x : L.getD 2 false = true := hall { on := 2, ground := Ground.data } (by simp) (by decide)
    have h3x : L.getD 3 false = true := hall { on := 3, ground := Ground.data } (by simp) (by decide)
    have H0 := hI h0x
    have H2 := hI h2x
    have H3 := hI h3x
    clear hall hi h0x h2x h3x
    have e0 := HV.out.k0 H0.out
    subst e0
    have e1 := HV.out.k2 H2.out
    subst e1
    have e2 := HV.out.k3 H3.out
    subst e2
    refine wpOp_hid rfl fun K' HK => ?_
    go_simp
    refine (HPA.out _ HV.out.bx).mono ?_
    rintro e wn ⟨rfl, hbn⟩
    cases HV.out
    refine HK.out _ _ ⟨by simp [HJ.out.sz], ?_⟩
    iterate 11 apply Exists.intro
    refine ⟨rfl, ?_⟩
    constructor
    case k4 => exact fun _ => rfl
    case bx => exact HV.out.bx.below hbn
    case o9 => exact fun h j => bkeep hbn (HV.out.o9 (getD_dn (by decide) h) (getD_df (by decide) j))
    case n9 => exact fun h => bkeep hbn (HV.out.n9 (getD_dn (by decide) h))
    case q9 => exact fun h => getD_up hun (HV.out.q9 (getD_dn (by decide) h))
    all_goals exact Um (by assumption)
   ·simp at ho
    subst ho
    have h4x : L.getD 4 false = true := hall { on := 4, ground := Ground.data } (by simp) (by decide)
    have H4 := hI h4x
    clear hall hi h4x
    have e0 := HV.out.k4 H4.out
    subst e0
    refine wpOp_hid rfl fun K' HK => ?_
    go_simp
    cases HV.out
    refine HK.out _ _ ⟨by simp [HJ.out.sz], ?_⟩
    iterate 11 apply Exists.intro
    refine ⟨rfl, ?_⟩
    constructor
    case k5 => exact fun _ => rfl
    case bx => exact HV.out.bx
    case o9 => exact fun h0 h1 => HV.out.o9 (getD_dn (by decide) h0) (getD_df (by decide) h1)
    case q9 => exact fun h => getD_up hun (HV.out.q9 (getD_dn (by decide) h))
    all_goals exact Um (by assumption)
   ·simp at ho
    subst ho
    have h5x : L.getD 5 false = true := hall { on := 5, ground := Ground.data } (by simp) (by decide)
    have H5 := hI h5x
    clear hall hi h5x
    have e0 := HV.out.k5 H5.out
    subst e0
    refine wpOp_hid rfl fun K' HK => ?_
    go_simp
    cases HV.out
    refine HK.out _ _ ⟨by simp [HJ.out.sz], ?_⟩
    iterate 11 apply Exists.intro
    refine ⟨rfl, ?_⟩
    constructor
    case k6 => exact fun _ => rfl
    case bx => exact HV.out.bx
    case o9 => exact fun h0 h1 => HV.out.o9 (getD_dn (by decide) h0) (getD_df (by decide) h1)
    case q9 => exact fun h => getD_up hun (HV.out.q9 (getD_dn (by decide) h))
    all_goals exact Um (by assumption)
   ·simp at ho
    subst ho
    have h5x : L.getD 5 false = true := hall { on := 5, ground := Ground.data } (by simp) (by decide)
    have H5 := hI h5x
    clear hall hi h5x
    have e0 := HV.out.k5 H5.out
    subst e0
    refine wpOp_hid rfl fun K' HK => ?_
    go_simp
    cases HV.out
    refine HK.out _ _ ⟨by simp [HJ.out.sz], ?_⟩
    iterate 11 apply Exists.intro
    refine ⟨rfl, ?_⟩
    constructor
    case k7 => exact fun _ => rfl
    case bx => exact HV.out.bx
    case o9 => exact fun h0 h1 => HV.out.o9 (getD_dn (by decide) h0) (getD_df (by decide) h1)
    case q9 => exact fun h => getD_up hun (HV.out.q9 (getD_dn (by decide) h))
    all_goals exact Um (by assumption)
   ·simp at ho
    subst ho
    clear hall hi
    refine wpOp_hid rfl fun K' HK => ?_
    go_simp
    cases HV.out
    refine HK.out _ _ ⟨by simp [HJ.out.sz], w'.heap.size, ?_⟩
    iterate 10 apply Exists.intro
    refine ⟨rfl, ?_⟩
    constructor
    case k8 => exact fun _ => rfl
    case bx => exact HV.out.bx.below ((Below.refl _ w').alloc (Nat.le_refl _) _)
    case o9 => exact fun _ _ => heap_alloc_new w' _
    case b9 => exact fun _ => ⟨HV.out.bx.1.size, fun x hx e => by have := (Array.getElem?_eq_some_iff.1 (HV.out.bx.2 x hx)).1; omega⟩
    case n9 => exact fun h => (not_on hoff (HV.out.q9 (getD_dn (by decide) h))).elim
    case q9 => exact fun h => getD_up hun (HV.out.q9 (getD_dn (by decide) h))
    all_goals exact Um (by assumption)
   ·simp at ho
    subst ho
    have h8x : L.getD 8 false = true := hall { on := 8, ground := Ground.data } (by simp) (by decide)
    have h6x : L.getD 6 false = true := hall { on := 6, ground := Ground.data } (by simp) (by decide)
    have H8 := hI h8x
    have H6 := hI h6x
    clear hall hi h8x h6x
    have e0 := HV.out.k8 H8.out
    subst e0
    have e1 := HV.out.k6 H6.out
    subst e1
    have hko := HV.out.o9 H8.out hoff
    have m0 := Lib.cell_of_heap hko 0; have m1 := Lib.cell_of_heap hko 1; have f0 := Lib.frozen_of_heap hko 0; have f1 := Lib.frozen_of_heap hko 1
    simp at m0 m1 f0 f1
    refine wpOp_hid rfl fun K' HK => ?_
    go_simp
    cases HV.out
    refine HK.out _ _ ⟨by simp [HJ.out.sz], ?_⟩
    iterate 11 apply Exists.intro
    refine ⟨rfl, ?_⟩
    constructor
    case bx => exact HV.out.bx.far (b := m4) (HV.out.b9 H8.out).1 (HV.out.b9 H8.out).2 _ _
    case o9 => exact fun _ h => (not_on h (getD_set_same hun)).elim
    case b9 => exact fun _ => HV.out.b9 H8.out
    case n9 => exact fun _ => set2 hko _ _
    case q9 => exact fun _ => getD_up hun H8.out
    all_goals exact Um (by assumption)
   ·simp at ho
    subst ho
    have h7x : L.getD 7 false = true := hall { on := 7, ground := Ground.data } (by simp) (by decide)
    have H7 := hI h7x
    clear hall hi h7x
    have e0 := HV.out.k7 H7.out
    subst e0
    refine wpOp_hid rfl fun K' HK => ?_
    go_simp
    cases HV.out
    refine HK.out _ _ ⟨by simp [HJ.out.sz], ?_⟩
    iterate 11 apply Exists.intro
    refine ⟨rfl, ?_⟩
    constructor
    case k10 => exact fun _ => rfl
    case bx => exact HV.out.bx
    case o9 => exact fun h0 h1 => HV.out.o9 (getD_dn (by decide) h0) (getD_df (by decide) h1)
    case q9 => exact fun h => getD_up hun (HV.out.q9 (getD_dn (by decide) h))
    all_goals exact Um (by assumption)
 case stWA =>
  intro L a w' hj i hi
  obtain ⟨hun, o, ho, hall⟩ := mem_ready.1 hi
  have hoff := getD_off hun
  have hlt := (Array.getElem?_eq_some_iff.1 ho).1
  simp at hlt
  obtain ⟨m4, s4, s5, s17, s18, s19, s20, s21, s22, rfl, hv⟩ := hj.fr
  have HV := hI hv
  have HJ := hI hj
  clear hv hj
  rcases (show i = 0 ∨ i = 1 ∨ i = 2 ∨ i = 3 ∨ i = 4 ∨ i = 5 ∨ i = 6 ∨ i = 7 ∨ i = 8 from by omega) with rfl | rfl | rfl | rfl | rfl | rfl | rfl | rfl | rfl
  ·simp at ho
   subst ho
   clear hall hi
   have hb := HV.out.bx.get 1 rfl
   have c0 := Lib.cell_of_heap hb 0; have c1 := Lib.cell_of_heap hb 1; have c2 := Lib.cell_of_heap hb 2; have c3 := Lib.cell_of_heap hb 3; have c4 := Lib.cell_of_heap hb 4; have c5 := Lib.cell_of_heap hb 5; have c6 := Lib.cell_of_heap hb 6; have c7 := Lib.cell_of_heap hb 7; have c8 := Lib.cell_of_heap hb 8; have c9 := Lib.cell_of_heap hb 9; have c10 := Lib.cell_of_heap hb 10; have c11 := Lib.cell_of_heap hb 11; have c12 := Lib.cell_of_heap hb 12; have c13 := Lib.cell_of_heap hb 13; have c14 := Lib.cell_of_heap hb 14
   simp [Inst.cells] at c0 c1 c2 c3 c4 c5 c6 c7 c8 c9 c10 c11 c12 c13 c14
   refine wpOp_hid rfl fun K' HK => ?_
   go_simp
   cases HV.out
   refine HK.out _ _ ⟨by simp [HJ.out.sz], ?_⟩
   iterate 9 apply Exists.intro
   refine ⟨rfl, ?_⟩
   constructor
   case k0 => exact fun _ => rfl
   case bx => exact HV.out.bx
   case o7 => exact fun h0 h1 => HV.out.o7 (getD_dn (by decide) h0) (getD_df (by decide) h1)
   case q7 => exact fun h => getD_up hun (HV.out.q7 (getD_dn (by decide) h))
   all_goals exact Um (by assumption)
  ·simp at ho
   subst ho
   clear hall hi
   refine wpOp_hid rfl fun K' HK => ?_
   go_simp
   refine (HDA.out _ HV.out.bx).mono ?_
   rintro e wn ⟨rfl, hbn⟩
   cases HV.out
   refine HK.out _ _ ⟨by simp [HJ.out.sz], ?_⟩
   iterate 9 apply Exists.intro
   refine ⟨rfl, ?_⟩
   constructor
   case k1 => exact fun _ => rfl
   case bx => exact HV.out.bx.below hbn
   case o7 => exact fun h j => bkeep hbn (HV.out.o7 (getD_dn (by decide) h) (getD_df (by decide) j))
   case n7 => exact fun h => bkeep hbn (HV.out.n7 (getD_dn (by decide) h))
   case q7 => exact fun h => getD_up hun (HV.out.q7 (getD_dn (by decide) h))
   all_goals exact Um (by assumption)
  ·simp at ho
   subst ho
   have h0x : L.getD 0 false = true := hall { on := 0, ground := Ground.data } (by simp) (by decide)
   have h1x : L.getD 1 false = true := hall { on := 1, ground := Ground.data } (by simp) (by decide)
   have H0 := hI h0x
   have H1 := hI h1x
   clear hall hi h0x h1x
   have e0 := HV.out.k0 H0.out
   subst e0
   have e1 := HV.out.k1 H1.out
   subst e1
   refine wpOp_hid rfl fun K' HK => ?_
   go_simp
   refine (HAC.out _ HV.out.bx).mono ?_
   rintro e wn ⟨rfl, hbn⟩
   cases HV.out
   refine HK.out _ _ ⟨by simp [HJ.out.sz], ?_⟩
   iterate 9 apply Exists.intro
   refine ⟨rfl, ?_⟩
   constructor
   case k2 => exact fun _ => rfl
   case bx => exact HV.out.bx.below hbn
   case o7 => exact fun h j => bkeep hbn (HV.out.o7 (getD_dn (by decide) h) (getD_df (by decide) j))
   case n7 => exact fun h => bkeep hbn (HV.out.n7 (getD_dn (by decide) h))
   case q7 => exact fun h => getD_up hun (HV.out.q7 (getD_dn (by decide) h))
   all_goals exact Um (by assumption)
  ·simp at ho
   subst ho
   have h2x : L.getD 2 false = true := hall { on := 2, ground := Ground.data } (by simp) (by decide)
   have H2 := hI h2x
   clear hall hi h2x
   have e0 := HV.out.k2 H2.out
   subst e0
   refine wpOp_hid rfl fun K' HK => ?_
   go_simp
   cases HV.out
   refine HK.out _ _ ⟨by simp [HJ.out.sz], ?_⟩
   iterate 9 apply Exists.intro
   refine ⟨rfl, ?_⟩
   constructor
   case k3 => exact fun _ => rfl
   case bx => exact HV.out.bx
   case o7 => exact fun h0 h1 => HV.out.o7 (getD_dn (by decide) h0) (getD_df (by decide) h1)
   case q7 => exact fun h => getD_up hun (HV.out.q7 (getD_dn (by decide) h))
   all_goals exact Um (by assumption)
  ·simp at ho
   subst ho
   have h3x : L.getD 3 false = true := hall { on := 3, ground := Ground.data } (by simp) (by decide)
   have H3 := hI h3x
   clear hall hi h3x
   have e0 := HV.out.k3 H3.out
   subst e0
   refine wpOp_hid rfl fun K' HK => ?_
   go_simp
   cases HV.out
   refine HK.out _ _ ⟨by simp [HJ.out.sz], ?_⟩
   iterate 9 apply Exists.intro
   refine ⟨rfl, ?_⟩
   constructor
   case k4 => exact fun _ => rfl
   case bx => exact HV.out.bx
   case o7 => exact fun h0 h1 => HV.out.o7 (getD_dn (by decide) h0) (getD_df (by decide) h1)
   case q7 => exact fun h => getD_up hun (HV.out.q7 (getD_dn (by decide) h))
   all_goals exact Um (by assumption)
  ·simp at ho
   subst ho
   have h3x : L.getD 3 false = true := hall { on := 3, ground := Ground.data } (by simp) (by decide)
   have H3 := hI h3x
   clear hall hi h3x
   have e0 := HV.out.k3 H3.out
   subst e0
   refine wpOp_hid rfl fun K' HK => ?_
   go_simp
   cases HV.out
   refine HK.out _ _ ⟨by simp [HJ.out.sz], ?_⟩
   iterate 9 apply Exists.intro
   refine ⟨rfl, ?_⟩
   constructor
   case k5 => exact fun _ => rfl
   case bx => exact HV.out.bx
   case o7 => exact fun h0 h1 => HV.out.o7 (getD_dn (by decide) h0) (getD_df (by decide) h1)
   case q7 => exact fun h => getD_up hun (HV.out.q7 (getD_dn (by decide) h))
   all_goals exact Um (by assumption)
  ·simp at ho
   subst ho
   clear hall hi
   refine wpOp_hid rfl fun K' HK => ?_
   go_simp
   cases HV.out
   refine HK.out _ _ ⟨by simp [HJ.out.sz], w'.heap.size, ?_⟩
   iterate 8 apply Exists.intro
   refine ⟨rfl, ?_⟩
   constructor
   case k6 => exact fun _ => rfl
   case bx => exact HV.out.bx.below ((Below.refl _ w').alloc (Nat.le_refl _) _)
   case o7 => exact fun _ _ => heap_alloc_new w' _
   case b7 => exact fun _ => ⟨HV.out.bx.1.size, fun x hx e => by have := (Array.getElem?_eq_some_iff.1 (HV.out.bx.2 x hx)).1; omega⟩
   case n7 => exact fun h => (not_on hoff (HV.out.q7 (getD_dn (by decide) h))).elim
   case q7 => exact fun h => getD_up hun (HV.out.q7 (getD_dn (by decide) h))
   all_goals exact Um (by assumption)
  ·simp at ho
   subst ho
   have h6x : L.getD 6 false = true := hall { on := 6, ground := Ground.data } (by simp) (by decide)
   have h4x : L.getD 4 false = true := hall { on := 4, ground := Ground.data } (by simp) (by decide)
   have H6 := hI h6x
   have H4 := hI h4x
   clear hall hi h6x h4x
   have e0 := HV.out.k6 H6.out
   subst e0
   have e1 := HV.out.k4 H4.out
   subst e1
   have hko := HV.out.o7 H6.out hoff
   have m0 := Lib.cell_of_heap hko 0; have m1 := Lib.cell_of_heap hko 1; have f0 := Lib.frozen_of_heap hko 0; have f1 := Lib.frozen_of_heap hko 1
   simp at m0 m1 f0 f1
   refine wpOp_hid rfl fun K' HK => ?_
   go_simp
   cases HV.out
   refine HK.out _ _ ⟨by simp [HJ.out.sz], ?_⟩
   iterate 9 apply Exists.intro
   refine ⟨rfl, ?_⟩
   constructor
   case bx => exact HV.out.bx.far (b := m4) (HV.out.b7 H6.out).1 (HV.out.b7 H6.out).2 _ _
   case o7 => exact fun _ h => (not_on h (getD_set_same hun)).elim
   case b7 => exact fun _ => HV.out.b7 H6.out
   case n7 => exact fun _ => set2 hko _ _
   case q7 => exact fun _ => getD_up hun H6.out
   all_goals exact Um (by assumption)
  ·simp at ho
   subst ho
   have h5x : L.getD 5 false = true := hall { on := 5, ground := Ground.data } (by simp) (by decide)
   have H5 := hI h5x
   clear hall hi h5x
   have e0 := HV.out.k5 H5.out
   subst e0
   refine wpOp_hid rfl fun K' HK => ?_
   go_simp
   cases HV.out
   refine HK.out _ _ ⟨by simp [HJ.out.sz], ?_⟩
   iterate 9 apply Exists.intro
   refine ⟨rfl, ?_⟩
   constructor
   case k8 => exact fun _ => rfl
   case bx => exact HV.out.bx
   case o7 => exact fun h0 h1 => HV.out.o7 (getD_dn (by decide) h0) (getD_df (by decide) h1)
   case q7 => exact fun h => getD_up hun (HV.out.q7 (getD_dn (by decide) h))
   all_goals exact Um (by assumption)
end Go.Proofs.YtcnmoobojdopgaaGreatDoor
