/-
  The walk of tranchelaw11.BondPresent. (Printed by gen_law31.py.)
-/
import Derived.Test.YtnnjgpgccifknaaGreatDoorB37
import Derived.Test.YtnnjgpgccifknaaGreatDoorB38
set_option linter.unusedVariables false
set_option linter.unusedSimpArgs false
set_option maxHeartbeats 16000000
set_option maxRecDepth 100000
namespace Go.Proofs.YtnnjgpgccifknaaGreatDoor
open Go.RowKit Tr Go.Shelf
theorem cmp_ge {p q : Rat} (h : q ≤ p) : 0 ≤ cmpI (p - q).num 0 := num_nn (by grind)
theorem pres_call {i : Inst} (h : BdI i) (hc : Few i) {d : Int} (h1 : i.issued ≤ d) (h2 : d ≤ i.matures) (yn yd : ByteArray) (s1 : yn.size ≤ 13) (s2 : yd.size ≤ 13) (hq : CanQ yn yd) :
 ∃ (q : Rat) (e : Int), (∀ W, Tabs W → Calls Tryz.prog 17 #[i.enc, .int .i64 d, .agg #[.string yn, .string yd]] W fun r w' => r = .returned (.tuple #[.agg #[.string (I q.num), .string (dn q)], .int .i64 e]) ∧ Below W.heap.size W w') ∧
  ((0 < 1 + fv yn yd ∧ e = 0 ∧ q = (if d = i.matures then 0 else presQ i d (fv yn yd))) ∨ (¬ 0 < 1 + fv yn yd ∧ e = 2 ∧ q = 0)) := by
 by_cases hy : 0 < 1 + fv yn yd
 ·exact ⟨_, 0, fun W hW => bPres_few h hc h1 h2 yn yd (by omega) (by omega) hq hy W hW, .inl ⟨hy, rfl, rfl⟩⟩
 ·exact ⟨0, 2, fun W hW => bPres_no h hc h1 h2 yn yd (by omega) (by omega) hq hy W hW, .inr ⟨hy, rfl, rfl⟩⟩
theorem presQ_bd {i : Inst} (h : BdI i) (hc : (perL i).length ≤ 15) {d : Int} (h1 : i.issued ≤ d) (h2 : d ≤ i.matures) {y : Rat} (hb : BdQ y 60) (hy : 0 < 1 + y) : BdQ (if d = i.matures then 0 else presQ i d y) 3000 := by
 by_cases hd : d = i.matures
 ·rw [if_pos hd]; exact BdQ.zero (by omega)
 rw [if_neg hd]
 obtain ⟨k, p, hk, hp, hp1, hp2⟩ := at_life (i := i) h1 (by omega)
 have hkl := (List.getElem?_eq_some_iff.1 hp).1
 have hin := per_in h hp
 have ho := h.per (List.mem_of_getElem? hp)
 obtain ⟨⟨a0, a1⟩, ⟨b0, b1⟩⟩ := ho
 obtain ⟨t0, t1⟩ := left_ok h hp hp1 hp2
 have hg : BdQ (1 + y) 70 := (BdQ.add (BdQ.int (z := 1) (k := 1) (by decide) (by omega)) hb).mono (by omega)
 have hlq : BdQ (Rat.divInt (p.2 - d) (p.2 - p.1)) 6 := BdQ.divInt (by omega) (by omega) (by omega)
 have hbb : BdQ (1 + y * Rat.divInt (p.2 - d) (p.2 - p.1)) 70 := (BdQ.add (BdQ.int (z := 1) (k := 1) (by decide) (by omega)) (BdQ.mul hb hlq)).mono (by omega)
 have hb0 : 1 + y * Rat.divInt (p.2 - d) (p.2 - p.1) ≠ 0 := by have := by_pos hy t0 t1; grind
 have hx := amt_at hkl
 rw [presQ_some hk hp hx]
 refine (BdQ.quo (BdQ.add (pv_bd hg (by grind) ((amtL i).drop (k + 1)) (fun x hx => amt_bd h (List.mem_of_mem_drop hx))) (amt_bd h (List.mem_of_getElem? hx))) hbb hb0).mono ?_
 rw [List.length_drop, amtL_len]
 omega
structure YAV (w : World) (n16 n18 : Nat) (ql pl ph qm : Rat) (zc2 : Int)  (L : Array Bool) (W : World) (s108 s109 s110 s111 s112 s113 s114 : Value) : Prop where
 k0 : L.getD 0 false = true → s108 = .int .i64 0
 k1 : L.getD 1 false = true → s109 = .bool true
 k2 : L.getD 2 false = true → s110 = .agg #[.string (I ql.num), .string (dn ql)]
 k3 : L.getD 3 false = true → s111 = .agg #[.string (I qm.num), .string (dn qm)]
 k4 : L.getD 4 false = true → s112 = .int .i64 zc2
 k5 : L.getD 5 false = true → s113 = .bool true
 k6 : L.getD 6 false = true → s114 = .bool false
 bx : BX w [(n18, fobj ph), (n16, fobj pl), (w.heap.size + 1, fobj ql)] W
structure YAJ (w : World) (n16 n18 : Nat) (ql pl ph qm : Rat) (zc2 : Int) (x0 x1 x2 x3 x4 x5 x7 x8 x9 x10 x11 x12 x13 x14 x15 x16 x18 x19 x20 x21 x22 x23 x24 x25 x26 x27 x28 x29 x30 x31 x32 x33 x34 x35 x36 x37 x38 x39 x40 x41 x42 x43 x44 x45 x46 x47 x48 x49 x50 x51 x52 x53 x54 x55 x56 x57 x58 x59 x60 x61 x62 x63 x64 x65 x66 x67 x68 x69 x70 x71 x72 x73 x74 x75 x76 x77 x78 x79 x80 x81 x82 x83 x84 x85 x86 x87 x88 x89 x90 x91 x92 x93 x94 x95 x96 x97 x98 x99 x100 x101 x102 x103 x104 x105 x106 x107 x115 x116 x117 x118 x119 x120 x121 x122 x123 x124 x125 x126 x127 x128 x129 x130 x131 x132 x133 x134 : Value) (L : Array Bool) (a : Act) (W : World) : Prop where
 sz : L.size = 7
 fr : ∃ s108 s109 s110 s111 s112 s113 s114 : Value, a = { tmps := #[x0, x1, x2, x3, x4, x5, .pointer (some ⟨w.heap.size + 1, 0, none⟩), x7, x8, x9, x10, x11, x12, x13, x14, x15, x16, .int .i64 0, x18, x19, x20, x21, x22, x23, x24, x25, x26, x27, x28, x29, x30, x31, x32, x33, x34, x35, x36, x37, x38, x39, x40, x41, x42, x43, x44, x45, x46, x47, x48, x49, x50, x51, x52, x53, x54, x55, x56, x57, x58, x59, x60, x61, x62, x63, x64, x65, x66, x67, x68, x69, x70, x71, x72, x73, x74, x75, x76, x77, x78, x79, x80, x81, x82, x83, x84, x85, x86, x87, x88, x89, x90, x91, x92, x93, x94, x95, x96, x97, x98, x99, x100, x101, x102, x103, x104, x105, x106, x107, s108, s109, s110, s111, s112, s113, s114, x115, x116, x117, x118, x119, x120, x121, x122, x123, x124, x125, x126, x127, x128, x129, x130, x131, x132, x133, x134], defers := [] } ∧ YAV w n16 n18 ql pl ph qm zc2  L W s108 s109 s110 s111 s112 s113 s114
structure YBV (w : World) (n16 n18 : Nat) (ql pl ph qm : Rat) (zc2 : Int)  (L : Array Bool) (W : World) (s108 s109 s110 s111 s112 s113 s114 : Value) : Prop where
 k0 : L.getD 0 false = true → s108 = .int .i64 2
 k1 : L.getD 1 false = true → s109 = .bool false
 k2 : L.getD 2 false = true → s110 = .agg #[.string (I ql.num), .string (dn ql)]
 k3 : L.getD 3 false = true → s111 = .agg #[.string (I qm.num), .string (dn qm)]
 k4 : L.getD 4 false = true → s112 = .int .i64 zc2
 k5 : L.getD 5 false = true → s113 = .bool false
 k6 : L.getD 6 false = true → s114 = .bool false
 bx : BX w [(n18, fobj ph), (n16, fobj pl), (w.heap.size + 1, fobj ql)] W
structure YBJ (w : World) (n16 n18 : Nat) (ql pl ph qm : Rat) (zc2 : Int) (x0 x1 x2 x3 x4 x5 x7 x8 x9 x10 x11 x12 x13 x14 x15 x16 x18 x19 x20 x21 x22 x23 x24 x25 x26 x27 x28 x29 x30 x31 x32 x33 x34 x35 x36 x37 x38 x39 x40 x41 x42 x43 x44 x45 x46 x47 x48 x49 x50 x51 x52 x53 x54 x55 x56 x57 x58 x59 x60 x61 x62 x63 x64 x65 x66 x67 x68 x69 x70 x71 x72 x73 x74 x75 x76 x77 x78 x79 x80 x81 x82 x83 x84 x85 x86 x87 x88 x89 x90 x91 x92 x93 x94 x95 x96 x97 x98 x99 x100 x101 x102 x103 x104 x105 x106 x107 x115 x116 x117 x118 x119 x120 x121 x122 x123 x124 x125 x126 x127 x128 x129 x130 x131 x132 x133 x134 : Value) (L : Array Bool) (a : Act) (W : World) : Prop where
 sz : L.size = 7
 fr : ∃ s108 s109 s110 s111 s112 s113 s114 : Value, a = { tmps := #[x0, x1, x2, x3, x4, x5, .pointer (some ⟨w.heap.size + 1, 0, none⟩), x7, x8, x9, x10, x11, x12, x13, x14, x15, x16, .int .i64 2, x18, x19, x20, x21, x22, x23, x24, x25, x26, x27, x28, x29, x30, x31, x32, x33, x34, x35, x36, x37, x38, x39, x40, x41, x42, x43, x44, x45, x46, x47, x48, x49, x50, x51, x52, x53, x54, x55, x56, x57, x58, x59, x60, x61, x62, x63, x64, x65, x66, x67, x68, x69, x70, x71, x72, x73, x74, x75, x76, x77, x78, x79, x80, x81, x82, x83, x84, x85, x86, x87, x88, x89, x90, x91, x92, x93, x94, x95, x96, x97, x98, x99, x100, x101, x102, x103, x104, x105, x106, x107, s108, s109, s110, s111, s112, s113, s114, x115, x116, x117, x118, x119, x120, x121, x122, x123, x124, x125, x126, x127, x128, x129, x130, x131, x132, x133, x134], defers := [] } ∧ YBV w n16 n18 ql pl ph qm zc2  L W s108 s109 s110 s111 s112 s113 s114
theorem BondPresent_any (i : Inst) (d : Int) (yn yd zn zd : ByteArray) (w : World) (ht : Tabs w) :
 Calls Tryz.prog 7 #[i.enc, .int .i64 d, .agg #[.string yn, .string yd], .agg #[.string zn, .string zd]] w fun e w' => e = .returned (.bool true) ∧ Below w.heap.size w w' := by
 have HT := hI ht
 obtain ⟨W0, hW0', hB0, hz, k0, k1, k2⟩ := box3 w (.cells i.cells 27) (.cells #[.string yn, .string yd] 25) (.cells #[.string zn, .string zd] 25)
 have hW0 := hW0'.symm
 have HG0 : Hid (BX w [(w.heap.size + 1, .cells #[.string yn, .string yd] 25 (0, 0)), (w.heap.size + 2, .cells #[.string zn, .string zd] 25 (0, 0)), (w.heap.size, .cells i.cells 27 (0, 0))] W0) := ⟨hB0, fun x hx => by
  rcases List.mem_cons.1 hx with rfl | hx
  ·exact k1
  ·rcases List.mem_cons.1 hx with rfl | hx
   ·exact k2
   ·rcases List.mem_cons.1 hx with rfl | hx
    ·exact k0
    ·cases hx⟩
 have c0 := Lib.cell_of_heap (k0) 0
 have c1 := Lib.cell_of_heap (k0) 1
 have c2 := Lib.cell_of_heap (k0) 2
 have c3 := Lib.cell_of_heap (k0) 3
 have c4 := Lib.cell_of_heap (k0) 4
 have c5 := Lib.cell_of_heap (k0) 5
 have c6 := Lib.cell_of_heap (k0) 6
 have c7 := Lib.cell_of_heap (k0) 7
 have c8 := Lib.cell_of_heap (k0) 8
 have c9 := Lib.cell_of_heap (k0) 9
 have c10 := Lib.cell_of_heap (k0) 10
 have c11 := Lib.cell_of_heap (k0) 11
 have c12 := Lib.cell_of_heap (k0) 12
 have c13 := Lib.cell_of_heap (k0) 13
 have c14 := Lib.cell_of_heap (k0) 14
 simp [Inst.cells] at c0 c1 c2 c3 c4 c5 c6 c7 c8 c9 c10 c11 c12 c13 c14
 clear hB0 hz k0 k1 k2 ht hW0'
 unfold Inst.enc Inst.cells at *
 go_enter Tryz.func7, Tryz.ntmps7
 go_wp2_with fail
 refine (fine11_any i _).mono ?_
 rintro e w1 ⟨g, rfl, hg, x1⟩
 have HG1 := hI (HG0.out.below x1)
 clear x1 HG0 hW0 c0 c1 c2 c3 c4 c5 c6 c7 c8 c9 c10 c11 c12 c13 c14
 cases g
 case false =>
  clear hg
  go_wp2_with fail
  refine (awake11_any _ (HT.out.below HG1.out.1)).mono ?_
  rintro e wz ⟨rfl, xz⟩
  have HBZ := hI (HG1.out.below xz).1
  clear xz
  go_wp2_with fail
  go_ret
  exact ⟨rfl, HBZ.out⟩
 obtain ⟨htiny, hbd, hcut⟩ := hg rfl
 clear hg
 have c0 := Lib.cell_of_heap (HG1.out.get 2 rfl) 0
 have c1 := Lib.cell_of_heap (HG1.out.get 2 rfl) 1
 have c2 := Lib.cell_of_heap (HG1.out.get 2 rfl) 2
 have c3 := Lib.cell_of_heap (HG1.out.get 2 rfl) 3
 have c4 := Lib.cell_of_heap (HG1.out.get 2 rfl) 4
 have c5 := Lib.cell_of_heap (HG1.out.get 2 rfl) 5
 have c6 := Lib.cell_of_heap (HG1.out.get 2 rfl) 6
 have c7 := Lib.cell_of_heap (HG1.out.get 2 rfl) 7
 have c8 := Lib.cell_of_heap (HG1.out.get 2 rfl) 8
 have c9 := Lib.cell_of_heap (HG1.out.get 2 rfl) 9
 have c10 := Lib.cell_of_heap (HG1.out.get 2 rfl) 10
 have c11 := Lib.cell_of_heap (HG1.out.get 2 rfl) 11
 have c12 := Lib.cell_of_heap (HG1.out.get 2 rfl) 12
 have c13 := Lib.cell_of_heap (HG1.out.get 2 rfl) 13
 have c14 := Lib.cell_of_heap (HG1.out.get 2 rfl) 14
 simp [Inst.cells] at c0 c1 c2 c3 c4 c5 c6 c7 c8 c9 c10 c11 c12 c13 c14
 have HH := hI hbd
 have HFEW : Hid (Few i) := by show (cuts i.issued i.matures i.months).length ≤ 399; omega
 have HL15 : Hid ((perL i).length ≤ 15) := by
  have := pers_len i.issued i.matures i.months
  show (pers i.issued i.matures i.months).length ≤ 15
  omega
 clear htiny hbd hcut
 by_cases h1 : d < i.issued
 ·have t1 : decide (d < i.issued) = true := decide_eq_true h1
  clear h1
  go_wp2_with fail
  refine (awake11_any _ (HT.out.below HG1.out.1)).mono ?_
  rintro e wz ⟨rfl, xz⟩
  have HBZ := hI (HG1.out.below xz).1
  clear xz
  go_wp2_with fail
  go_ret
  exact ⟨rfl, HBZ.out⟩
 have t1 : decide (d < i.issued) = false := decide_eq_false h1
 by_cases h2 : i.matures < d
 ·have t2 : decide (i.matures < d) = true := decide_eq_true h2
  clear h1 h2
  go_wp2_with fail
  refine (awake11_any _ (HT.out.below HG1.out.1)).mono ?_
  rintro e wz ⟨rfl, xz⟩
  have HBZ := hI (HG1.out.below xz).1
  clear xz
  go_wp2_with fail
  go_ret
  exact ⟨rfl, HBZ.out⟩
 have t2 : decide (i.matures < d) = false := decide_eq_false h2
 have HLF : Hid (i.issued ≤ d ∧ d ≤ i.matures) := ⟨by omega, by omega⟩
 clear h1 h2
 have y0 := Lib.cell_of_heap (HG1.out.get 0 rfl) 0
 have y1 := Lib.cell_of_heap (HG1.out.get 0 rfl) 1
 simp at y0 y1
 have z0 := Lib.cell_of_heap (HG1.out.get 1 rfl) 0
 have z1 := Lib.cell_of_heap (HG1.out.get 1 rfl) 1
 simp at z0 z1
 obtain ⟨W2, hW2⟩ : ∃ W2, w1.alloc (.cells #[.string yn, .string yd, .string zn, .string zd] 25) = W2 := ⟨_, rfl⟩
 have HG2 : Hid (BX w ((w1.heap.size, .cells #[.string yn, .string yd, .string zn, .string zd] 25 (0, 0)) :: [(w.heap.size + 1, .cells #[.string yn, .string yd] 25 (0, 0)), (w.heap.size + 2, .cells #[.string zn, .string zd] 25 (0, 0)), (w.heap.size, .cells i.cells 27 (0, 0))]) W2) := by show BX _ _ _; rw [← hW2]; exact HG1.out.push _
 have HLG := hI (long11_any [(yn, yd), (zn, zd)] 2 w1.heap.size rfl (by omega) W2 (HG2.out.get 0 rfl))
 go_wp2_with fail
 refine HLG.out.mono ?_
 rintro e w3 ⟨g, rfl, rfl, hg⟩
 clear HLG
 cases g
 case true =>
  clear hg
  go_wp2_with fail
  refine (awake11_any _ (HT.out.below HG2.out.1)).mono ?_
  rintro e wz ⟨rfl, xz⟩
  have HBZ := hI (HG2.out.below xz).1
  clear xz
  go_wp2_with fail
  go_ret
  exact ⟨rfl, HBZ.out⟩
 obtain ⟨sy1, sy2⟩ := hg rfl (yn, yd) (by simp)
 obtain ⟨sz1, sz2⟩ := hg rfl (zn, zd) (by simp)
 simp only at sy1 sy2 sz1 sz2
 have HSY := hI (And.intro sy1 sy2)
 have HSZ := hI (And.intro sz1 sz2)
 clear hg sy1 sy2 sz1 sz2 y0 y1 z0 z1 hW2 HG1 c0 c1 c2 c3 c4 c5 c6 c7 c8 c9 c10 c11 c12 c13 c14
 have y0 := Lib.cell_of_heap (HG2.out.get 1 rfl) 0
 have y1 := Lib.cell_of_heap (HG2.out.get 1 rfl) 1
 simp at y0 y1
 have z0 := Lib.cell_of_heap (HG2.out.get 2 rfl) 0
 have z1 := Lib.cell_of_heap (HG2.out.get 2 rfl) 1
 simp at z0 z1
 by_cases hcy : CanQ yn yd
 case neg =>
  have HNC := hI hcy
  clear hcy
  go_wp2_with fail
  refine (fCheck_no yn yd _ (by have := HSY.out.1; omega) (by have := HSY.out.2; omega) HNC.out (HT.out.below HG2.out.1)).mono ?_
  rintro e w4 ⟨rfl, x4⟩
  have HG4 := hI (HG2.out.below x4)
  clear x4 HG2
  go_wp2_with fail
  refine (awake11_any _ (HT.out.below HG4.out.1)).mono ?_
  rintro e wz ⟨rfl, xz⟩
  have HBZ := hI (HG4.out.below xz).1
  clear xz
  go_wp2_with fail
  go_ret
  exact ⟨rfl, HBZ.out⟩
 have HCY := hI hcy
 clear hcy
 go_wp2_with fail
 refine (fCheck_yes yn yd _ (by have := HSY.out.1; omega) (by have := HSY.out.2; omega) HCY.out (HT.out.below HG2.out.1)).mono ?_
 rintro e w4 ⟨rfl, x4⟩
 have HG4 := hI (HG2.out.below x4)
 clear x4 HG2 y0 y1 z0 z1
 have z0 := Lib.cell_of_heap (HG4.out.get 2 rfl) 0
 have z1 := Lib.cell_of_heap (HG4.out.get 2 rfl) 1
 simp at z0 z1
 by_cases hcz : CanQ zn zd
 case neg =>
  have HNC := hI hcz
  clear hcz
  go_wp2_with fail
  refine (fCheck_no zn zd _ (by have := HSZ.out.1; omega) (by have := HSZ.out.2; omega) HNC.out (HT.out.below HG4.out.1)).mono ?_
  rintro e w5 ⟨rfl, x5⟩
  have HG5 := hI (HG4.out.below x5)
  clear x5 HG4
  go_wp2_with fail
  refine (awake11_any _ (HT.out.below HG5.out.1)).mono ?_
  rintro e wz ⟨rfl, xz⟩
  have HBZ := hI (HG5.out.below xz).1
  clear xz
  go_wp2_with fail
  go_ret
  exact ⟨rfl, HBZ.out⟩
 have HCZ := hI hcz
 clear hcz
 go_wp2_with fail
 refine (fCheck_yes zn zd _ (by have := HSZ.out.1; omega) (by have := HSZ.out.2; omega) HCZ.out (HT.out.below HG4.out.1)).mono ?_
 rintro e w5 ⟨rfl, x5⟩
 have HG5 : Hid (BX w [(w.heap.size + 1, .cells #[.string yn, .string yd] 25 (0, 0)), (w.heap.size + 2, .cells #[.string zn, .string zd] 25 (0, 0)), (w.heap.size, .cells i.cells 27 (0, 0))] w5) := ⟨(HG4.out.below x5).1, fun x hx => (HG4.out.below x5).2 x (List.mem_cons_of_mem _ hx)⟩
 clear x5 HG4 z0 z1 t1 t2
 have y0 := Lib.cell_of_heap (HG5.out.get 0 rfl) 0
 have y1 := Lib.cell_of_heap (HG5.out.get 0 rfl) 1
 simp at y0 y1
 have z0 := Lib.cell_of_heap (HG5.out.get 1 rfl) 0
 have z1 := Lib.cell_of_heap (HG5.out.get 1 rfl) 1
 simp at z0 z1
 have HCM := hI (fun W (hW : Tabs W) => fCompare_any yn yd zn zd W (by have := HSY.out.1; omega) (by have := HSY.out.2; omega) (by have := HSZ.out.1; omega) (by have := HSZ.out.2; omega) hW)
 obtain ⟨zc, hzc⟩ : ∃ z, cmpI (fv yn yd - fv zn zd).num 0 = z := ⟨_, rfl⟩
 rw [hzc] at HCM
 have HZC := hI hzc
 clear hzc
 go_wp2_with fail
 refine (HCM.out _ (HT.out.below HG5.out.1)).mono ?_
 rintro e w6 ⟨rfl, x6⟩
 have HG6 := hI (HG5.out.below x6)
 clear x6 HG5 HCM y0 y1 z0 z1
 obtain ⟨ql, qh, hlq⟩ : ∃ ql qh : Rat, (decide (0 < zc) = true ∧ ql = fv zn zd ∧ qh = fv yn yd) ∨ (decide (0 < zc) = false ∧ ql = fv yn yd ∧ qh = fv zn zd) := by
  by_cases h : 0 < zc
  ·exact ⟨_, _, .inl ⟨decide_eq_true h, rfl, rfl⟩⟩
  ·exact ⟨_, _, .inr ⟨decide_eq_false h, rfl, rfl⟩⟩
 have HLE : Hid (ql ≤ qh) := by
  have hz := (cmpz (fv yn yd - fv zn zd)).2.1
  rw [HZC.out] at hz
  rcases hlq with ⟨t, rfl, rfl⟩ | ⟨t, rfl, rfl⟩
  ·have := hz.1 (of_decide_eq_true t)
   show _ ≤ _
   grind
  ·have hn := mt hz.2 (of_decide_eq_false t)
   have := Rat.not_lt.1 hn
   show _ ≤ _
   grind
 have HSM : Hid (((I ql.num).size ≤ 13 ∧ (dn ql).size ≤ 13) ∧ ((I qh.num).size ≤ 13 ∧ (dn qh).size ≤ 13)) := by
  have e1 : (I (fv yn yd).num).size ≤ 13 ∧ (dn (fv yn yd)).size ≤ 13 := by rw [← HCY.out.1, ← HCY.out.2]; exact HSY.out
  have e2 : (I (fv zn zd).num).size ≤ 13 ∧ (dn (fv zn zd)).size ≤ 13 := by rw [← HCZ.out.1, ← HCZ.out.2]; exact HSZ.out
  rcases hlq with ⟨t, rfl, rfl⟩ | ⟨t, rfl, rfl⟩
  ·exact ⟨e2, e1⟩
  ·exact ⟨e1, e2⟩
 have HLQ := hI hlq
 clear hlq HSY HSZ
 have y0 := Lib.cell_of_heap (HG6.out.get 0 rfl) 0
 have y1 := Lib.cell_of_heap (HG6.out.get 0 rfl) 1
 simp at y0 y1
 have z0 := Lib.cell_of_heap (HG6.out.get 1 rfl) 0
 have z1 := Lib.cell_of_heap (HG6.out.get 1 rfl) 1
 simp at z0 z1
 go_upto_if 55 with fail
 go_cut [8] (fun v8 wx => v8 = .bool false ∧ BX w [(w.heap.size + 1, fobj ql), (w.heap.size + 2, fobj qh), (w.heap.size, .cells i.cells 27 (0, 0))] wx)
 case first =>
  rcases HLQ.out with ⟨t, h1, h2⟩ | ⟨t, h1, h2⟩
  ·have g0 := Lib.frozen_of_heap (HG6.out.get 0 rfl) 0
   have g1 := Lib.frozen_of_heap (HG6.out.get 0 rfl) 1
   have g2 := Lib.frozen_of_heap (HG6.out.get 1 rfl) 0
   have g3 := Lib.frozen_of_heap (HG6.out.get 1 rfl) 1
   have H12 := hI (And.intro h1 h2)
   clear h1 h2
   rw [t]
   go_wp2_with fail
   go_meet
   refine ⟨rfl, ?_⟩
   have a1 := Go.Proofs.YtnnjgpgccifknaaGreatDoor.set2 (HG6.out.get 0 rfl) (.string zn) (.string zd)
   have a2 := (set2_far (B := w.heap.size + 1) (k := w.heap.size + 2) (by omega) (.string zn) (.string zd)).trans (HG6.out.get 1 rfl)
   have a3 := (set2_far (B := w.heap.size + 1) (k := w.heap.size) (by omega) (.string zn) (.string zd)).trans (HG6.out.get 2 rfl)
   have a4 := set2_below (B := w.heap.size + 1) (by omega) HG6.out.1 (.string zn) (.string zd)
   refine ⟨set2_below (B := w.heap.size + 2) (by omega) a4 _ _, fun x hx => ?_⟩
   rcases List.mem_cons.1 hx with rfl | hx
   ·rw [H12.out.1]
    unfold fobj
    rw [← HCZ.out.1, ← HCZ.out.2]
    exact (set2_far (B := w.heap.size + 2) (by omega) _ _).trans a1
   ·rcases List.mem_cons.1 hx with rfl | hx
    ·rw [H12.out.2]
     unfold fobj
     rw [← HCY.out.1, ← HCY.out.2]
     exact Go.Proofs.YtnnjgpgccifknaaGreatDoor.set2 a2 _ _
    ·rcases List.mem_cons.1 hx with rfl | hx
     ·exact (set2_far (B := w.heap.size + 2) (by omega) _ _).trans a3
     ·cases hx
  ·have H12 := hI (And.intro h1 h2)
   clear h1 h2
   rw [t]
   go_wp2_with fail
   go_meet
   refine ⟨rfl, HG6.out.1, fun x hx => ?_⟩
   rcases List.mem_cons.1 hx with rfl | hx
   ·rw [H12.out.1]
    unfold fobj
    rw [← HCY.out.1, ← HCY.out.2]
    exact HG6.out.get 0 rfl
   ·rcases List.mem_cons.1 hx with rfl | hx
    ·rw [H12.out.2]
     unfold fobj
     rw [← HCZ.out.1, ← HCZ.out.2]
     exact HG6.out.get 1 rfl
    ·rcases List.mem_cons.1 hx with rfl | hx
     ·exact HG6.out.get 2 rfl
     ·cases hx
 case rest =>
  obtain ⟨rfl, hg7⟩ := hcut
  have HG7 := hI hg7
  clear hg7 HG6 y0 y1 z0 z1 HLQ HZC HCY HCZ
  obtain ⟨R, hR⟩ : ∃ R, restL i d (flowsL i) = R := ⟨_, rfl⟩
  obtain ⟨M, hM⟩ : ∃ M, R.length = M := ⟨_, rfl⟩
  have hM15 : M ≤ 15 := by have := rest_len i d; rw [hR, hM] at this; have := HL15.out; omega
  obtain ⟨qs, hqs⟩ : ∃ q, rsum (R.map Prod.snd) = q := ⟨_, rfl⟩
  have hzl := zero_law HH.out HLF.out.1 HLF.out.2
  rw [hR, hqs] at hzl
  have hrb := rest_bd HH.out d
  rw [hR] at hrb
  have HRB := hI hrb
  have HRS := hI (fun W (hW : Tabs W) => bRest_few HH.out HFEW.out (life_ok HH.out HLF.out.1 HLF.out.2) W hW)
  rw [hR, hM] at HRS
  have hz0 := fun W (hW : Tabs W) => bPres_few HH.out HFEW.out HLF.out.1 HLF.out.2 ⟨#[]⟩ ⟨#[]⟩ (by decide) (by decide) canQ_nil (by rw [fv_zero]; decide +kernel) W hW
  rw [fv_zero, hzl] at hz0
  unfold fenc at hz0
  have HZ0 := hI hz0
  obtain ⟨pl, el, hpl, hpl2⟩ := pres_call HH.out HFEW.out HLF.out.1 HLF.out.2 (I ql.num) (dn ql) HSM.out.1.1 HSM.out.1.2 (by unfold CanQ; rw [fv_enc]; exact ⟨rfl, rfl⟩)
  obtain ⟨ph, eh, hph, hph2⟩ := pres_call HH.out HFEW.out HLF.out.1 HLF.out.2 (I qh.num) (dn qh) HSM.out.2.1 HSM.out.2.2 (by unfold CanQ; rw [fv_enc]; exact ⟨rfl, rfl⟩)
  rw [fv_enc] at hpl2 hph2
  have HPL := hI hpl
  have HPH := hI hph
  have HBDL : Hid (BdQ ql 60 ∧ BdQ qh 60) := by
   have e1 := fv_bd (I ql.num) (dn ql) (k := 60) (by have := HSM.out.1.1; omega) (by have := HSM.out.1.2; omega)
   have e2 := fv_bd (I qh.num) (dn qh) (k := 60) (by have := HSM.out.2.1; omega) (by have := HSM.out.2.2; omega)
   rw [fv_enc] at e1 e2
   exact ⟨e1, e2⟩
  have HCASE : Hid ((0 < 1 + ql ∧ el = 0 ∧ eh = 0 ∧ ph ≤ pl ∧ 0 ≤ ph ∧ BdQ pl 3000 ∧ BdQ ph 3000) ∨ (¬ 0 < 1 + ql ∧ el = 2)) := by
   rcases hpl2 with ⟨a1, a2, a3⟩ | ⟨a1, a2, _⟩
   ·have hh : 0 < 1 + qh := by have := HLE.out; grind
    rcases hph2 with ⟨b1, b2, b3⟩ | ⟨b1, _⟩
    ·have g1 := presQ_bd HH.out HL15.out HLF.out.1 HLF.out.2 HBDL.out.1 a1
     have g2 := presQ_bd HH.out HL15.out HLF.out.1 HLF.out.2 HBDL.out.2 hh
     refine .inl ⟨a1, a2, b2, ?_, ?_, by rw [a3]; exact g1, by rw [b3]; exact g2⟩
     ·rw [a3, b3]
      by_cases hd : d = i.matures
      ·rw [if_pos hd, if_pos hd]; exact Rat.le_refl
      ·rw [if_neg hd, if_neg hd]
       exact (pres_anti HH.out HLF.out.1 (by have := HLF.out.2; omega) a1 HLE.out).1
     ·rw [b3]
      by_cases hd : d = i.matures
      ·rw [if_pos hd]; exact Rat.le_refl
      ·rw [if_neg hd]
       exact (pres_anti HH.out HLF.out.1 (by have := HLF.out.2; omega) a1 HLE.out).2
    ·exact absurd hh b1
   ·exact .inr ⟨a1, a2⟩
  have HRR := hI hR
  have HMM := hI hM
  have HQS := hI hqs
  unfold Inst.enc Inst.cells at HRS HZ0 HPL HPH
  clear hR hM hqs hzl hrb hz0 hpl hpl2 hph hph2 HLE HLF HL15 HFEW HSM
  have HG8 : Hid (BX w ((wc.heap.size, fz) :: [(w.heap.size + 1, fobj ql), (w.heap.size + 2, fobj qh), (w.heap.size, .cells i.cells 27 (0, 0))]) (wc.alloc fz)) := HG7.out.push _
  have HN8 : Hid (w.heap.size + 2 < wc.heap.size) := HG7.out.lt 1 rfl
  have ne8 : wc.heap.size ≠ w.heap.size := by have := HN8.out; omega
  have lt8 : w.heap.size < wc.heap.size := by have := HN8.out; omega
  have c0 := Lib.cell_of_heap (HG7.out.get 2 rfl) 0
  have c1 := Lib.cell_of_heap (HG7.out.get 2 rfl) 1
  have c2 := Lib.cell_of_heap (HG7.out.get 2 rfl) 2
  have c3 := Lib.cell_of_heap (HG7.out.get 2 rfl) 3
  have c4 := Lib.cell_of_heap (HG7.out.get 2 rfl) 4
  have c5 := Lib.cell_of_heap (HG7.out.get 2 rfl) 5
  have c6 := Lib.cell_of_heap (HG7.out.get 2 rfl) 6
  have c7 := Lib.cell_of_heap (HG7.out.get 2 rfl) 7
  have c8 := Lib.cell_of_heap (HG7.out.get 2 rfl) 8
  have c9 := Lib.cell_of_heap (HG7.out.get 2 rfl) 9
  have c10 := Lib.cell_of_heap (HG7.out.get 2 rfl) 10
  have c11 := Lib.cell_of_heap (HG7.out.get 2 rfl) 11
  have c12 := Lib.cell_of_heap (HG7.out.get 2 rfl) 12
  have c13 := Lib.cell_of_heap (HG7.out.get 2 rfl) 13
  have c14 := Lib.cell_of_heap (HG7.out.get 2 rfl) 14
  simp [Inst.cells] at c0 c1 c2 c3 c4 c5 c6 c7 c8 c9 c10 c11 c12 c13 c14
  go_wp2_with fail
  refine (HRS.out _ (HT.out.below HG8.out.1)).mono ?_
  rintro e w9 ⟨⟨gr, cp, sp, hgb, rfl, hgr⟩, x9⟩
  obtain ⟨W8, hW8⟩ : ∃ W8, wc.alloc fz = W8 := ⟨_, rfl⟩
  rw [hW8] at HG8 hgb x9
  clear ne8 lt8
  generalize wc.heap.size = bs at HG8 HN8 ⊢
  have HG9 := hI (HG8.out.below x9)
  have hgl := (Array.getElem?_eq_some_iff.1 hgr).1
  have hne : bs ≠ gr := by have := HG8.out.lt 0 rfl; omega
  obtain ⟨ob, hob⟩ : ∃ ob : Obj, ob = .cells (flV R ++ sp).toArray 44 (0, 0) := ⟨_, rfl⟩
  rw [← hob] at hgr
  have hwgr : w.heap.size ≤ gr := Nat.le_trans HG8.out.1.size hgb
  have hne2 : ∀ x, x ∈ ((gr, ob) :: [(w.heap.size + 1, fobj ql), (w.heap.size + 2, fobj qh), (w.heap.size, .cells i.cells 27 (0, 0))]) → x.1 ≠ bs := fun x hx => by
   rcases List.mem_cons.1 hx with rfl | hx
   ·exact Ne.symm hne
   ·rcases List.mem_cons.1 hx with rfl | hx
    ·show w.heap.size + 1 ≠ bs; have := HN8.out; omega
    ·rcases List.mem_cons.1 hx with rfl | hx
     ·show w.heap.size + 2 ≠ bs; have := HN8.out; omega
     ·rcases List.mem_cons.1 hx with rfl | hx
      ·show w.heap.size ≠ bs; have := HN8.out; omega
      ·cases hx
  have HGA : Hid (BX w ((gr, ob) :: [(w.heap.size + 1, fobj ql), (w.heap.size + 2, fobj qh), (w.heap.size, .cells i.cells 27 (0, 0))]) w9 ∧ w9.heap[bs]? = some (fobj 0)) := ⟨⟨HG9.out.1, fun x hx => by
   rcases List.mem_cons.1 hx with rfl | hx
   ·exact hgr
   ·exact HG9.out.2 x (List.mem_cons_of_mem _ hx)⟩, by rw [fobj_zero]; exact HG9.out.get 0 rfl⟩
  obtain ⟨ad, had⟩ : ∃ ad : Addr, ad = ⟨gr, 0, none⟩ := ⟨_, rfl⟩
  have HFL : Hid (∀ (W : World) (k : Nat) (x : Int × Rat), W.heap[gr]? = some ob → R[k]? = some x → W.cell? (ad.add (k * 3)) = some (.int .i64 x.1) ∧ W.cell? ⟨(ad.add (k * 3)).block, (ad.add (k * 3)).off + 1, none⟩ = some (.string (I x.2.num)) ∧ W.cell? ⟨(ad.add (k * 3)).block, (ad.add (k * 3)).off + 2, none⟩ = some (.string (dn x.2))) := fun W k x hW hx => by
   rw [hob] at hW
   have hs : FRow W gr sp R W := ⟨hW, ⟨rfl, rfl, rfl, Nat.le_refl _, fun _ _ _ => rfl⟩, (Array.getElem?_eq_some_iff.1 hW).1⟩
   exact hs.at' had hx
  have HNE := hI hne2
  have HBS : Hid (w.heap.size ≤ bs) := by have := HN8.out; show _ ≤ _; omega
  rw [← had]
  clear x9 hgr hgl hne hne2 hob hgb hwgr had HG8 HG9 hW8 HN8 HRS HG7 c0 c1 c2 c3 c4 c5 c6 c7 c8 c9 c10 c11 c12 c13 c14
  go_wp2_with fail
  go_loopw [13, 67] (fun _ v wr => ∃ k : Nat, v = .int .i64 (k : Int) ∧ k ≤ M ∧ BX w ((gr, ob) :: [(w.heap.size + 1, fobj ql), (w.heap.size + 2, fobj qh), (w.heap.size, .cells i.cells 27 (0, 0))]) wr ∧ wr.heap[bs]? = some (fobj (rsum ((R.take k).map Prod.snd)))) (fun _ v _ => M - (intOf v).toNat)
  case atStart => exact ⟨0, rfl, by omega, HGA.out.1, HGA.out.2⟩
  case round =>
   obtain ⟨k, rfl, hk, hbx, hbs⟩ := hrel
   have HBX := hI hbx
   have HSB := hI hbs
   clear hbx hbs HGA
   rcases Nat.lt_or_ge k M with hlt | hge
   ·obtain ⟨⟨fd, fq⟩, hx⟩ : ∃ x, R[k]? = some x := ⟨_, List.getElem?_eq_getElem (by rw [HMM.out]; exact hlt)⟩
    have hxm : (R.map Prod.snd)[k]? = some fq := by rw [List.getElem?_map, hx]; rfl
    have hq80 := HRB.out fq (List.mem_of_getElem? hxm)
    have hst := rsum_take hxm
    rw [← List.map_take, ← List.map_take] at hst
    obtain ⟨sk, hsk⟩ : ∃ q, rsum ((R.take k).map Prod.snd) = q := ⟨_, rfl⟩
    obtain ⟨sn, hsn⟩ : ∃ q, sk + fq = q := ⟨_, rfl⟩
    rw [hsk, hsn] at hst
    have hbk : BdQ sk 3000 := by
     rw [← hsk]
     refine (rsum_bd _ 80 (fun x hx => HRB.out x ?_)).mono ?_
     ·rw [List.map_take] at hx; exact List.mem_of_mem_take hx
     ·rw [List.length_map, List.length_take]; omega
    have had' := fun W (hW : Tabs W) => fAddQ hbk hq80 (by omega) (by omega) W hW
    rw [hsn] at had'
    unfold fenc at had'
    have HAD := hI had'
    have HSN := hI hst
    have hcx : decide ((k : Int) < (M : Int)) = true := by simp; omega
    have hki : (k : Int) < (M : Int) := by omega
    obtain ⟨c0, c1, c2⟩ := HFL.out _ k _ (HBX.out.get 0 rfl) hx
    simp only at c0 c1 c2
    obtain ⟨W5, hW5⟩ : ∃ W5, wr.alloc (.cells #[.int .i64 fd, .string (I fq.num), .string (dn fq)] 44) = W5 := ⟨_, rfl⟩
    have b5 : Below wr.heap.size wr W5 := by rw [← hW5]; exact (Below.refl _ wr).alloc (Nat.le_refl _) _
    have k5 : W5.heap[wr.heap.size]? = some (.cells #[.int .i64 fd, .string (I fq.num), .string (dn fq)] 44 (0, 0)) := by rw [← hW5]; exact heap_alloc_new wr _
    have d0 := Lib.cell_of_heap k5 0
    have d1 := Lib.cell_of_heap k5 1
    have d2 := Lib.cell_of_heap k5 2
    simp at d0 d1 d2
    have HB5 := hI (HBX.out.below b5)
    have hs5 := bkeep b5 HSB.out
    rw [hsk] at hs5
    have s0 := Lib.cell_of_heap hs5 0
    have s1 := Lib.cell_of_heap hs5 1
    simp at s0 s1
    have HS5 := hI hs5
    clear b5 k5 hs5 hx hxm hq80 hst hsk hsn hbk had'
    go_wp2_with fail
    refine (HAD.out _ (HT.out.below HB5.out.1)).mono ?_
    rintro e w6 ⟨rfl, x6⟩
    have HB6 := hI (HB5.out.below x6)
    have hs6 := bkeep x6 HS5.out
    have f0 := Lib.frozen_of_heap hs6 0
    have f1 := Lib.frozen_of_heap hs6 1
    have s0 := Lib.cell_of_heap hs6 0
    have s1 := Lib.cell_of_heap hs6 1
    simp at f0 f1 s0 s1
    have HS6 := hI hs6
    clear x6 hs6 hW5 HB5 HS5 HAD c0 c1 c2 d0 d1 d2
    go_wp2_with fail
    go_roundw
    case rel => exact ⟨k + 1, by go_num, by omega, HB6.out.far HBS.out HNE.out _ _, by rw [HSN.out]; exact Go.Proofs.YtnnjgpgccifknaaGreatDoor.set2 HS6.out _ _⟩
    case measure => simp [intOf]; omega
   ·have hkM : k = M := by omega
    have hcx : decide ((k : Int) < (M : Int)) = false := by simp; omega
    have hcx2 : decide (k < M) = false := decide_eq_false (by omega)
    have hsb := HSB.out
    rw [List.take_of_length_le (by rw [HMM.out]; exact hge), HQS.out] at hsb
    have HS := hI hsb
    clear hsb HSB
    have c0 := Lib.cell_of_heap (HBX.out.get 3 rfl) 0
    have c1 := Lib.cell_of_heap (HBX.out.get 3 rfl) 1
    have c2 := Lib.cell_of_heap (HBX.out.get 3 rfl) 2
    have c3 := Lib.cell_of_heap (HBX.out.get 3 rfl) 3
    have c4 := Lib.cell_of_heap (HBX.out.get 3 rfl) 4
    have c5 := Lib.cell_of_heap (HBX.out.get 3 rfl) 5
    have c6 := Lib.cell_of_heap (HBX.out.get 3 rfl) 6
    have c7 := Lib.cell_of_heap (HBX.out.get 3 rfl) 7
    have c8 := Lib.cell_of_heap (HBX.out.get 3 rfl) 8
    have c9 := Lib.cell_of_heap (HBX.out.get 3 rfl) 9
    have c10 := Lib.cell_of_heap (HBX.out.get 3 rfl) 10
    have c11 := Lib.cell_of_heap (HBX.out.get 3 rfl) 11
    have c12 := Lib.cell_of_heap (HBX.out.get 3 rfl) 12
    have c13 := Lib.cell_of_heap (HBX.out.get 3 rfl) 13
    have c14 := Lib.cell_of_heap (HBX.out.get 3 rfl) 14
    simp [Inst.cells] at c0 c1 c2 c3 c4 c5 c6 c7 c8 c9 c10 c11 c12 c13 c14
    go_wp2_with fail
    refine (HZ0.out _ (HT.out.below HBX.out.1)).mono ?_
    rintro e wa ⟨rfl, xa⟩
    have HGa := hI (HBX.out.below xa)
    have HSa := hI (bkeep xa HS.out)
    clear xa HBX HS c0 c1 c2 c3 c4 c5 c6 c7 c8 c9 c10 c11 c12 c13 c14 hcx hcx2 hge
    obtain ⟨Wa, hWa⟩ : ∃ W, wa.alloc (.cells #[.string (I qs.num), .string (dn qs)] 25) = W := ⟨_, rfl⟩
    have HGb : Hid (BX w ((wa.heap.size, fobj qs) :: (bs, fobj qs) :: ((gr, ob) :: [(w.heap.size + 1, fobj ql), (w.heap.size + 2, fobj qh), (w.heap.size, .cells i.cells 27 (0, 0))])) Wa) := by
     show BX _ _ _; rw [← hWa]
     refine BX.push ⟨HGa.out.1, fun x hx => ?_⟩ _
     rcases List.mem_cons.1 hx with rfl | hx
     ·exact HSa.out
     ·exact HGa.out.2 x hx
    have s0 := Lib.cell_of_heap (HGb.out.get 1 rfl) 0
    have s1 := Lib.cell_of_heap (HGb.out.get 1 rfl) 1
    simp at s0 s1
    have u0 := Lib.cell_of_heap (HGb.out.get 0 rfl) 0
    have u1 := Lib.cell_of_heap (HGb.out.get 0 rfl) 1
    simp at u0 u1
    have hnq := run_neq_self (I qs.num) (dn qs)
    have y0 := Lib.cell_of_heap (HGb.out.get 3 rfl) 0
    have y1 := Lib.cell_of_heap (HGb.out.get 3 rfl) 1
    simp at y0 y1
    have c0 := Lib.cell_of_heap (HGb.out.get 5 rfl) 0
    have c1 := Lib.cell_of_heap (HGb.out.get 5 rfl) 1
    have c2 := Lib.cell_of_heap (HGb.out.get 5 rfl) 2
    have c3 := Lib.cell_of_heap (HGb.out.get 5 rfl) 3
    have c4 := Lib.cell_of_heap (HGb.out.get 5 rfl) 4
    have c5 := Lib.cell_of_heap (HGb.out.get 5 rfl) 5
    have c6 := Lib.cell_of_heap (HGb.out.get 5 rfl) 6
    have c7 := Lib.cell_of_heap (HGb.out.get 5 rfl) 7
    have c8 := Lib.cell_of_heap (HGb.out.get 5 rfl) 8
    have c9 := Lib.cell_of_heap (HGb.out.get 5 rfl) 9
    have c10 := Lib.cell_of_heap (HGb.out.get 5 rfl) 10
    have c11 := Lib.cell_of_heap (HGb.out.get 5 rfl) 11
    have c12 := Lib.cell_of_heap (HGb.out.get 5 rfl) 12
    have c13 := Lib.cell_of_heap (HGb.out.get 5 rfl) 13
    have c14 := Lib.cell_of_heap (HGb.out.get 5 rfl) 14
    simp [Inst.cells] at c0 c1 c2 c3 c4 c5 c6 c7 c8 c9 c10 c11 c12 c13 c14
    go_wp2_with fail
    refine (HPL.out _ (HT.out.below HGb.out.1)).mono ?_
    rintro e wb ⟨rfl, xb⟩
    have HGc := hI (HGb.out.below xb)
    clear xb HGb HGa HSa hWa s0 s1 u0 u1 hnq y0 y1 c0 c1 c2 c3 c4 c5 c6 c7 c8 c9 c10 c11 c12 c13 c14
    obtain ⟨Wb, hWb⟩ : ∃ W, wb.alloc (.cells #[.string (I pl.num), .string (dn pl)] 25) = W := ⟨_, rfl⟩
    have HGd : Hid (BX w ((wb.heap.size, fobj pl) :: (wa.heap.size, fobj qs) :: (bs, fobj qs) :: ((gr, ob) :: [(w.heap.size + 1, fobj ql), (w.heap.size + 2, fobj qh), (w.heap.size, .cells i.cells 27 (0, 0))])) Wb) := by show BX _ _ _; rw [← hWb]; exact HGc.out.push _
    have y0 := Lib.cell_of_heap (HGd.out.get 5 rfl) 0
    have y1 := Lib.cell_of_heap (HGd.out.get 5 rfl) 1
    simp at y0 y1
    have c0 := Lib.cell_of_heap (HGd.out.get 6 rfl) 0
    have c1 := Lib.cell_of_heap (HGd.out.get 6 rfl) 1
    have c2 := Lib.cell_of_heap (HGd.out.get 6 rfl) 2
    have c3 := Lib.cell_of_heap (HGd.out.get 6 rfl) 3
    have c4 := Lib.cell_of_heap (HGd.out.get 6 rfl) 4
    have c5 := Lib.cell_of_heap (HGd.out.get 6 rfl) 5
    have c6 := Lib.cell_of_heap (HGd.out.get 6 rfl) 6
    have c7 := Lib.cell_of_heap (HGd.out.get 6 rfl) 7
    have c8 := Lib.cell_of_heap (HGd.out.get 6 rfl) 8
    have c9 := Lib.cell_of_heap (HGd.out.get 6 rfl) 9
    have c10 := Lib.cell_of_heap (HGd.out.get 6 rfl) 10
    have c11 := Lib.cell_of_heap (HGd.out.get 6 rfl) 11
    have c12 := Lib.cell_of_heap (HGd.out.get 6 rfl) 12
    have c13 := Lib.cell_of_heap (HGd.out.get 6 rfl) 13
    have c14 := Lib.cell_of_heap (HGd.out.get 6 rfl) 14
    simp [Inst.cells] at c0 c1 c2 c3 c4 c5 c6 c7 c8 c9 c10 c11 c12 c13 c14
    go_wp2_with fail
    refine (HPH.out _ (HT.out.below HGd.out.1)).mono ?_
    rintro e wd ⟨rfl, xd⟩
    have HGe := hI (HGd.out.below xd)
    clear xd HGd HGc hWb y0 y1 c0 c1 c2 c3 c4 c5 c6 c7 c8 c9 c10 c11 c12 c13 c14
    obtain ⟨Wd, hWd⟩ : ∃ W, wd.alloc (.cells #[.string (I ph.num), .string (dn ph)] 25) = W := ⟨_, rfl⟩
    have HGf : Hid (BX w ((wd.heap.size, fobj ph) :: ((wb.heap.size, fobj pl) :: (wa.heap.size, fobj qs) :: (bs, fobj qs) :: ((gr, ob) :: [(w.heap.size + 1, fobj ql), (w.heap.size + 2, fobj qh), (w.heap.size, .cells i.cells 27 (0, 0))]))) Wd) := by show BX _ _ _; rw [← hWd]; exact HGe.out.push _
    obtain ⟨n16, hn16⟩ : ∃ n, wb.heap.size = n := ⟨_, rfl⟩
    obtain ⟨n18, hn18⟩ : ∃ n, wd.heap.size = n := ⟨_, rfl⟩
    rw [hn16, hn18] at HGf
    have HGF : Hid (BX w [(n18, fobj ph), (n16, fobj pl), (w.heap.size + 1, fobj ql)] Wd) := ⟨HGf.out.1, fun x hx => by
     rcases List.mem_cons.1 hx with rfl | hx
     ·exact HGf.out.get 0 rfl
     ·rcases List.mem_cons.1 hx with rfl | hx
      ·exact HGf.out.get 1 rfl
      ·rcases List.mem_cons.1 hx with rfl | hx
       ·exact HGf.out.get 5 rfl
       ·cases hx⟩
    clear HGf HGe
    have hg : BX w [(n18, fobj ph), (n16, fobj pl), (w.heap.size + 1, fobj ql)] Wd.drew := ⟨HGF.out.1.drew, HGF.out.2⟩
    obtain ⟨qm, hqm⟩ : ∃ q : Rat, (-1 : Rat) = q := ⟨_, rfl⟩
    obtain ⟨zc2, hzc2⟩ : ∃ z, cmpI (ql - qm).num 0 = z := ⟨_, rfl⟩
    have HRM : Hid (∀ W, BX w [(n18, fobj ph), (n16, fobj pl), (w.heap.size + 1, fobj ql)] W → Calls Tryz.prog 24 #[.int .i64 (-1), .int .i64 1] W fun e w' => e = .returned (.agg #[.string (I qm.num), .string (dn qm)]) ∧ Below W.heap.size W w') := fun W hW => ratio11_to (-1) 1 qm (by rw [← hqm]; kernel_rfl) (by omega) (by omega) (by omega) (by omega) (by omega) W (HT.out.below hW.1)
    have HCQ : Hid (∀ W, BX w [(n18, fobj ph), (n16, fobj pl), (w.heap.size + 1, fobj ql)] W → Calls Tryz.prog 23 #[.agg #[.string (I ql.num), .string (dn ql)], .agg #[.string (I qm.num), .string (dn qm)]] W fun e w' => e = .returned (.int .i64 zc2) ∧ Below W.heap.size W w') := fun W hW => by
     have h := fCmpQ HBDL.out.1 (q := qm) (b := 1) (by rw [← hqm]; exact BdQ.int (z := -1) (by decide) (by omega)) (by omega) (by omega) W (HT.out.below hW.1)
     rw [hzc2] at h; exact h
    have HZ2 : Hid (0 < zc2 ↔ 0 < 1 + ql) := by
     have h := (cmpz (ql - qm)).2.1
     rw [hzc2, ← hqm] at h
     refine h.trans ?_
     constructor <;> intro h <;> grind
    clear hqm hzc2 HGF HBDL
    rcases HCASE.out with ⟨hy, rfl, rfl, hle, hnn, hb1, hb2⟩ | ⟨hy, rfl⟩
    ·have TZ : Hid (decide (0 < zc2) = true) := decide_eq_true (HZ2.out.2 hy)
     have HLL := hI (And.intro hle (And.intro hnn (And.intro hb1 hb2)))
     clear hy hle hnn hb1 hb2 HCASE
     go_wp2_with fail
     have mixed : Tryz.prog.follows .mixedOrders = true := by kernel_rfl
     refine wp_region_any mixed (wpAny_inv (YAJ w n16 n18 ql pl ph qm zc2 _ _ _ _ _ _ _ _ _ _ _ _ _ _ _ _ _ _ _ _ _ _ _ _ _ _ _ _ _ _ _ _ _ _ _ _ _ _ _ _ _ _ _ _ _ _ _ _ _ _ _ _ _ _ _ _ _ _ _ _ _ _ _ _ _ _ _ _ _ _ _ _ _ _ _ _ _ _ _ _ _ _ _ _ _ _ _ _ _ _ _ _ _ _ _ _ _ _ _ _ _ _ _ _ _ _ _ _ _ _ _ _ _ _ _ _ _ _ _ _ _ _ _ _ _ _) ?stYA ?dnYA _ _ _ _ ⟨by simp, ⟨_, _, _, _, _, _, _, rfl, fun h => by simp at h, fun h => by simp at h, fun h => by simp at h, fun h => by simp at h, fun h => by simp at h, fun h => by simp at h, fun h => by simp at h, hg⟩⟩ (by decide))
     case dnYA =>
      intro L a w' hj hr
      have all := all_on hr hj.sz (by kernel_rfl)
      obtain ⟨s108, s109, s110, s111, s112, s113, s114, rfl, hv⟩ := hj.fr
      have HGG := hI hv.bx
      have es := hv.k6 (all 6 (by omega))
      clear all hv hj hr
      subst es
      have HGG : Hid (BX w [(n18, fobj ph), (n16, fobj pl), (w.heap.size + 1, fobj ql)] w') := HGG.out
      have u0 := Lib.cell_of_heap (HGG.out.get 1 rfl) 0
      have u1 := Lib.cell_of_heap (HGG.out.get 1 rfl) 1
      simp at u0 u1
      have v0 := Lib.cell_of_heap (HGG.out.get 0 rfl) 0
      have v1 := Lib.cell_of_heap (HGG.out.get 0 rfl) 1
      simp at v0 v1
      obtain ⟨z3, hz3⟩ : ∃ z, cmpI (pl - ph).num 0 = z := ⟨_, rfl⟩
      obtain ⟨z4, hz4⟩ : ∃ z, cmpI ph.num 0 = z := ⟨_, rfl⟩
      have tz3 : decide (0 ≤ z3) = true := decide_eq_true (by rw [← hz3]; exact cmp_ge HLL.out.1)
      have tz4 : decide (0 ≤ z4) = true := decide_eq_true (by rw [← hz4]; exact num_nn HLL.out.2.1)
      have tz3' : decide (z3 ≥ 0) = true := tz3
      have tz4' : decide (z4 ≥ 0) = true := tz4
      have HS3 := hI (fun W (hW : Tabs W) => fCmpQ HLL.out.2.2.1 HLL.out.2.2.2 (by omega) (by omega) W hW)
      rw [hz3] at HS3
      unfold fenc at HS3
      have HS4 := hI (fun W (hW : Tabs W) => sign11_any HLL.out.2.2.2 (by omega) W hW)
      rw [hz4] at HS4
      unfold fenc at HS4
      clear hz3 hz4
      go_wp2_with fail
      refine (HS3.out _ (HT.out.below HGG.out.1)).mono ?_
      rintro e we ⟨rfl, xe⟩
      have HGH := hI (HGG.out.below xe)
      clear xe HGG u0 u1 v0 v1
      have v0 := Lib.cell_of_heap (HGH.out.get 0 rfl) 0
      have v1 := Lib.cell_of_heap (HGH.out.get 0 rfl) 1
      simp at v0 v1
      go_wp2_with fail
      refine (HS4.out _ (HT.out.below HGH.out.1)).mono ?_
      rintro e wf ⟨rfl, xf⟩
      have HGI := hI (HGH.out.below xf)
      clear xf HGH v0 v1
      go_wp2_with fail
      refine (awake11_any _ (HT.out.below HGI.out.1)).mono ?_
      rintro e wz ⟨rfl, xz⟩
      have HBZ := hI (HGI.out.below xz).1
      clear xz
      go_wp2_with fail
      go_ret
      exact ⟨rfl, HBZ.out⟩
     case stYA =>
      intro L a w' hj i hi
      obtain ⟨hun, o, ho, hall⟩ := mem_ready.1 hi
      have hoff := getD_off hun
      have hlt := (Array.getElem?_eq_some_iff.1 ho).1
      simp at hlt
      obtain ⟨s108, s109, s110, s111, s112, s113, s114, rfl, hv⟩ := hj.fr
      have HV := hI hv
      have HJ := hI hj
      clear hv hj
      rcases (show i = 0 ∨ i = 1 ∨ i = 2 ∨ i = 3 ∨ i = 4 ∨ i = 5 ∨ i = 6 from by omega) with rfl | rfl | rfl | rfl | rfl | rfl | rfl
      all_goals simp at ho
      all_goals subst ho
      rotate_left
      cases HV.out.k0 (Hq hall 0).out
      rotate_left
      have hb := HV.out.bx.get 2 rfl; have c0 := Lib.cell_of_heap hb 0; have c1 := Lib.cell_of_heap hb 1
      simp at c0 c1
      rotate_left
      ·clear hall hi
       refine wpOp_hid rfl fun K' HK => ?_
       go_simp
       refine (HRM.out _ HV.out.bx).mono ?_
       rintro e wn ⟨rfl, hbn⟩
       cases HV.out
       refine HK.out _ _ ⟨by simp [HJ.out.sz], ⟨_, _, _, _, _, _, _, rfl, ?_, ?_, ?_, fun _ => rfl, ?_, ?_, ?_, HV.out.bx.below hbn⟩⟩
       all_goals exact Um (by assumption)
      ·cases HV.out.k2 (Hq hall 2).out
       cases HV.out.k3 (Hq hall 3).out
       clear hall hi
       refine wpOp_hid rfl fun K' HK => ?_
       go_simp
       refine (HCQ.out _ HV.out.bx).mono ?_
       rintro e wn ⟨rfl, hbn⟩
       cases HV.out
       refine HK.out _ _ ⟨by simp [HJ.out.sz], ⟨_, _, _, _, _, _, _, rfl, ?_, ?_, ?_, ?_, fun _ => rfl, ?_, ?_, HV.out.bx.below hbn⟩⟩
       all_goals exact Um (by assumption)
      cases HV.out.k4 (Hq hall 4).out
      have tz2 : decide (0 < zc2) = true := TZ.out
      rotate_left
      cases HV.out.k1 (Hq hall 1).out
      cases HV.out.k5 (Hq hall 5).out
      rotate_left
      all_goals
       clear hall hi
       refine wpOp_hid rfl fun K' HK => ?_
       go_simp
       cases HV.out
       refine HK.out _ _ ⟨by simp [HJ.out.sz], ?_⟩
       iterate 7 apply Exists.intro
       refine ⟨rfl, ?_⟩
       constructor
       all_goals first | exact Um (by assumption) | exact Un (by assumption) | exact Uf (by assumption) | exact fun _ => rfl | assumption
    ·have TZ : Hid (decide (0 < zc2) = false) := decide_eq_false (fun h => hy (HZ2.out.1 h))
     clear hy HCASE
     go_wp2_with fail
     have mixed : Tryz.prog.follows .mixedOrders = true := by kernel_rfl
     refine wp_region_any mixed (wpAny_inv (YBJ w n16 n18 ql pl ph qm zc2 _ _ _ _ _ _ _ _ _ _ _ _ _ _ _ _ _ _ _ _ _ _ _ _ _ _ _ _ _ _ _ _ _ _ _ _ _ _ _ _ _ _ _ _ _ _ _ _ _ _ _ _ _ _ _ _ _ _ _ _ _ _ _ _ _ _ _ _ _ _ _ _ _ _ _ _ _ _ _ _ _ _ _ _ _ _ _ _ _ _ _ _ _ _ _ _ _ _ _ _ _ _ _ _ _ _ _ _ _ _ _ _ _ _ _ _ _ _ _ _ _ _ _ _ _ _) ?stYB ?dnYB _ _ _ _ ⟨by simp, ⟨_, _, _, _, _, _, _, rfl, fun h => by simp at h, fun h => by simp at h, fun h => by simp at h, fun h => by simp at h, fun h => by simp at h, fun h => by simp at h, fun h => by simp at h, hg⟩⟩ (by decide))
     case dnYB =>
      intro L a w' hj hr
      have all := all_on hr hj.sz (by kernel_rfl)
      obtain ⟨s108, s109, s110, s111, s112, s113, s114, rfl, hv⟩ := hj.fr
      have HGG := hI hv.bx
      have es := hv.k6 (all 6 (by omega))
      clear all hv hj hr
      subst es
      have HGG : Hid (BX w [(n18, fobj ph), (n16, fobj pl), (w.heap.size + 1, fobj ql)] w') := HGG.out
      go_wp2_with fail
      refine (awake11_any _ (HT.out.below HGG.out.1)).mono ?_
      rintro e wz ⟨rfl, xz⟩
      have HBZ := hI (HGG.out.below xz).1
      clear xz
      go_wp2_with fail
      go_ret
      exact ⟨rfl, HBZ.out⟩
     case stYB =>
      intro L a w' hj i hi
      obtain ⟨hun, o, ho, hall⟩ := mem_ready.1 hi
      have hoff := getD_off hun
      have hlt := (Array.getElem?_eq_some_iff.1 ho).1
      simp at hlt
      obtain ⟨s108, s109, s110, s111, s112, s113, s114, rfl, hv⟩ := hj.fr
      have HV := hI hv
      have HJ := hI hj
      clear hv hj
      rcases (show i = 0 ∨ i = 1 ∨ i = 2 ∨ i = 3 ∨ i = 4 ∨ i = 5 ∨ i = 6 from by omega) with rfl | rfl | rfl | rfl | rfl | rfl | rfl
      all_goals simp at ho
      all_goals subst ho
      rotate_left
      cases HV.out.k0 (Hq hall 0).out
      rotate_left
      have hb := HV.out.bx.get 2 rfl; have c0 := Lib.cell_of_heap hb 0; have c1 := Lib.cell_of_heap hb 1
      simp at c0 c1
      rotate_left
      ·clear hall hi
       refine wpOp_hid rfl fun K' HK => ?_
       go_simp
       refine (HRM.out _ HV.out.bx).mono ?_
       rintro e wn ⟨rfl, hbn⟩
       cases HV.out
       refine HK.out _ _ ⟨by simp [HJ.out.sz], ⟨_, _, _, _, _, _, _, rfl, ?_, ?_, ?_, fun _ => rfl, ?_, ?_, ?_, HV.out.bx.below hbn⟩⟩
       all_goals exact Um (by assumption)
      ·cases HV.out.k2 (Hq hall 2).out
       cases HV.out.k3 (Hq hall 3).out
       clear hall hi
       refine wpOp_hid rfl fun K' HK => ?_
       go_simp
       refine (HCQ.out _ HV.out.bx).mono ?_
       rintro e wn ⟨rfl, hbn⟩
       cases HV.out
       refine HK.out _ _ ⟨by simp [HJ.out.sz], ⟨_, _, _, _, _, _, _, rfl, ?_, ?_, ?_, ?_, fun _ => rfl, ?_, ?_, HV.out.bx.below hbn⟩⟩
       all_goals exact Um (by assumption)
      cases HV.out.k4 (Hq hall 4).out
      have tz2 : decide (0 < zc2) = false := TZ.out
      rotate_left
      cases HV.out.k1 (Hq hall 1).out
      cases HV.out.k5 (Hq hall 5).out
      rotate_left
      all_goals
       clear hall hi
       refine wpOp_hid rfl fun K' HK => ?_
       go_simp
       cases HV.out
       refine HK.out _ _ ⟨by simp [HJ.out.sz], ?_⟩
       iterate 7 apply Exists.intro
       refine ⟨rfl, ?_⟩
       constructor
       all_goals first | exact Um (by assumption) | exact Un (by assumption) | exact Uf (by assumption) | exact fun _ => rfl | assumption
end Go.Proofs.YtnnjgpgccifknaaGreatDoor
