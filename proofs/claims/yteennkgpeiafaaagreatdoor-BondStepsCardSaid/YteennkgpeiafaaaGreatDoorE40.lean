/-
  The walk of tranchelaw11.BondSteps. (Printed by gen_law34.py.)
-/
import Derived.Test.YteennkgpeiafaaaGreatDoorE37
import Derived.Test.YteennkgpeiafaaaGreatDoorE39
import Derived.Deep.RegionWith
set_option linter.unusedVariables false
set_option linter.unusedSimpArgs false
set_option maxHeartbeats 16000000
set_option maxRecDepth 100000
namespace Go.Proofs.YteennkgpeiafaaaGreatDoor
open Go.RowKit Tr Go.Shelf
def TAC (w : World) (i : Inst) (yn yd : ByteArray) (W : World) : Prop := W.cell? ⟨w.heap.size, 0, none⟩ = some (.string i.id) ∧ W.cell? ⟨w.heap.size, 1, none⟩ = some (.int .i64 i.kind) ∧ W.cell? ⟨w.heap.size, 2, none⟩ = some (.string i.cur) ∧ W.cell? ⟨w.heap.size, 3, none⟩ = some (.int .i64 i.places) ∧ W.cell? ⟨w.heap.size, 4, none⟩ = some (.int .i64 i.issued) ∧ W.cell? ⟨w.heap.size, 5, none⟩ = some (.int .i64 i.matures) ∧ W.cell? ⟨w.heap.size, 6, none⟩ = some (.string i.fn) ∧ W.cell? ⟨w.heap.size, 7, none⟩ = some (.string i.fd) ∧ W.cell? ⟨w.heap.size, 8, none⟩ = some (.string i.cn) ∧ W.cell? ⟨w.heap.size, 9, none⟩ = some (.string i.cd) ∧ W.cell? ⟨w.heap.size, 10, none⟩ = some (.int .i64 i.months) ∧ W.cell? ⟨w.heap.size, 11, none⟩ = some (.int .i64 i.count) ∧ W.cell? ⟨w.heap.size, 12, none⟩ = some (.string i.other) ∧ W.cell? ⟨w.heap.size, 13, none⟩ = some (.string i.sn) ∧ W.cell? ⟨w.heap.size, 14, none⟩ = some (.string i.sd) ∧ W.cell? ⟨w.heap.size + 1, 0, none⟩ = some (.string yn) ∧ W.cell? ⟨w.heap.size + 1, 1, none⟩ = some (.string yd)
theorem TAC.of {w : World} {i : Inst} {yn yd : ByteArray} {W : World} (h : BX w [(w.heap.size + 1, Obj.cells #[.string yn, .string yd] 25 (0, 0)), (w.heap.size, Obj.cells i.cells 27 (0, 0))] W) : TAC w i yn yd W :=
 ⟨Lib.cell_of_heap (h.get 1 rfl) 0, Lib.cell_of_heap (h.get 1 rfl) 1, Lib.cell_of_heap (h.get 1 rfl) 2, Lib.cell_of_heap (h.get 1 rfl) 3, Lib.cell_of_heap (h.get 1 rfl) 4, Lib.cell_of_heap (h.get 1 rfl) 5, Lib.cell_of_heap (h.get 1 rfl) 6, Lib.cell_of_heap (h.get 1 rfl) 7, Lib.cell_of_heap (h.get 1 rfl) 8, Lib.cell_of_heap (h.get 1 rfl) 9, Lib.cell_of_heap (h.get 1 rfl) 10, Lib.cell_of_heap (h.get 1 rfl) 11, Lib.cell_of_heap (h.get 1 rfl) 12, Lib.cell_of_heap (h.get 1 rfl) 13, Lib.cell_of_heap (h.get 1 rfl) 14, Lib.cell_of_heap (h.get 0 rfl) 0, Lib.cell_of_heap (h.get 0 rfl) 1⟩
structure TBV (w : World) (i : Inst) (ad : Addr) (cur : Array Value) (N cap k n10 : Nat) (px py : Int) (qy qm' qp : Rat) (mm : Nat) (L : Array Bool) (W : World) (s12 s13 s78 s79 s80 s81 s82 s83 s84 s85 s86 s87 s88 : Value) : Prop where
 k0 : L.getD 0 false = true → s79 = .agg #[.string i.id, .int .i64 i.kind, .string i.cur, .int .i64 i.places, .int .i64 i.issued, .int .i64 i.matures, .string i.fn, .string i.fd, .string i.cn, .string i.cd, .int .i64 i.months, .int .i64 i.count, .string i.other, .string i.sn, .string i.sd]
 k1 : L.getD 1 false = true → s80 = .slice (some ad) N cap
 k2 : L.getD 2 false = true → s81 = .int .i64 (k : Int)
 k3 : L.getD 3 false = true → s82 = .pointer (some (ad.add (k * 2)))
 k4 : L.getD 4 false = true → s83 = .pointer (some (ad.add (k * 2)))
 k5 : L.getD 5 false = true → s84 = .int .i64 px
 k6 : L.getD 6 false = true → s85 = .agg #[.string (I qy.num), .string (dn qy)]
 k7 : L.getD 7 false = true → s86 = .tuple #[.agg #[.string (I qp.num), .string (dn qp)], .int .i64 0]
 k8 : L.getD 8 false = true → s78 = .tuple #[.agg #[.string (I qp.num), .string (dn qp)], .int .i64 0]
 k9 : L.getD 9 false = true → s87 = .agg #[.string (I qp.num), .string (dn qp)]
 k10 : L.getD 10 false = true → s88 = .int .i64 0
 k11 : L.getD 11 false = true → s12 = .pointer (some ⟨mm, 0, none⟩)
 k13 : L.getD 13 false = true → s13 = .int .i64 0
 bx : BX w ((n10, fobj qm') :: [(ad.block, Obj.cells cur 50 (0, 0)), (w.heap.size + 1, fobj qy), (w.heap.size, Obj.cells i.cells 27 (0, 0))]) W
 o12 : L.getD 11 false = true → L.getD 12 false = false → W.heap[mm]? = some (fz)
 b12 : L.getD 11 false = true → w.heap.size ≤ mm ∧ ∀ x, x ∈ ((n10, fobj qm') :: [(ad.block, Obj.cells cur 50 (0, 0)), (w.heap.size + 1, fobj qy), (w.heap.size, Obj.cells i.cells 27 (0, 0))]) → x.1 ≠ mm
 n12 : L.getD 12 false = true → W.heap[mm]? = some (fobj qp)
 q12 : L.getD 12 false = true → L.getD 11 false = true
structure TBJ (w : World) (i : Inst) (ad : Addr) (cur : Array Value) (N cap k n10 : Nat) (px py : Int) (qy qm' qp : Rat) (x0 x1 x2 x4 x6 x8 x10 x11 x14 x15 x16 x17 x18 x19 x20 x21 x22 x23 x24 x25 x26 x27 x28 x29 x30 x31 x32 x33 x34 x35 x36 x37 x38 x39 x40 x41 x42 x43 x44 x45 x46 x47 x48 x49 x50 x51 x52 x53 x54 x55 x56 x57 x58 x59 x60 x61 x62 x63 x64 x65 x66 x67 x68 x69 x70 x71 x72 x73 x74 x75 x76 x77 x89 x90 x91 x92 x93 x94 x95 x96 x97 x98 x99 x100 x101 x102 x103 x104 x105 x106 x107 x108 x109 x110 x111 x112 x113 x114 x115 x116 x117 x118 x119 x120 x121 x122 x123 x124 x125 x126 x127 x128 x129 x130 x131 x132 x133 x134 x135 x136 x137 x138 x139 x140 x141 x142 x143 x144 x145 x146 x147 x148 x149 x150 x151 x152 x153 x154 x155 x156 x157 x158 x159 x160 x161 x162 x163 x164 x165 x166 x167 x168 x169 x170 x171 x172 x173 x174 x175 x176 x177 x178 x179 x180 x181 x182 x183 x184 x185 x186 x187 x188 x189 x190 x191 : Value) (L : Array Bool) (a : Act) (W : World) : Prop where
 sz : L.size = 14
 fr : ∃ mm : Nat, ∃ s12 s13 s78 s79 s80 s81 s82 s83 s84 s85 s86 s87 s88 : Value, a = { tmps := #[x0, x1, x2, .pointer (some ⟨w.heap.size, 0, none⟩), x4, .pointer (some ⟨w.heap.size + 1, 0, none⟩), x6, .slice (some ad) N cap, x8, .int .i64 (k : Int), x10, x11, s12, s13, x14, x15, x16, x17, x18, x19, x20, x21, x22, x23, x24, x25, x26, x27, x28, x29, x30, x31, x32, x33, x34, x35, x36, x37, x38, x39, x40, x41, x42, x43, x44, x45, x46, x47, x48, x49, x50, x51, x52, x53, x54, x55, x56, x57, x58, x59, x60, x61, x62, x63, x64, x65, x66, x67, x68, x69, x70, x71, x72, x73, x74, x75, x76, x77, s78, s79, s80, s81, s82, s83, s84, s85, s86, s87, s88, x89, x90, x91, x92, x93, x94, x95, x96, x97, x98, x99, x100, x101, x102, x103, x104, x105, x106, x107, x108, x109, x110, x111, x112, x113, x114, x115, x116, x117, x118, x119, x120, x121, x122, x123, x124, x125, x126, x127, x128, x129, x130, x131, x132, x133, x134, x135, x136, x137, x138, x139, x140, x141, x142, x143, x144, x145, x146, x147, x148, x149, x150, x151, x152, x153, x154, x155, x156, x157, x158, x159, x160, x161, x162, x163, x164, x165, x166, x167, x168, x169, x170, x171, x172, x173, x174, x175, x176, x177, x178, x179, x180, x181, x182, x183, x184, x185, x186, x187, x188, x189, x190, x191], defers := [] } ∧ TBV w i ad cur N cap k n10 px py qy qm' qp mm L W s12 s13 s78 s79 s80 s81 s82 s83 s84 s85 s86 s87 s88
structure TCV (w : World) (i : Inst) (ad : Addr) (cur : Array Value) (N cap k n10 n12 : Nat) (px py : Int) (qy qm' qp qq : Rat) (mm : Nat) (L : Array Bool) (W : World) (s14 s15 s89 s90 s91 s92 s93 s94 s95 s96 s97 s98 s99 : Value) : Prop where
 k0 : L.getD 0 false = true → s90 = .agg #[.string i.id, .int .i64 i.kind, .string i.cur, .int .i64 i.places, .int .i64 i.issued, .int .i64 i.matures, .string i.fn, .string i.fd, .string i.cn, .string i.cd, .int .i64 i.months, .int .i64 i.count, .string i.other, .string i.sn, .string i.sd]
 k1 : L.getD 1 false = true → s91 = .slice (some ad) N cap
 k2 : L.getD 2 false = true → s92 = .int .i64 (k : Int)
 k3 : L.getD 3 false = true → s93 = .pointer (some (ad.add (k * 2)))
 k4 : L.getD 4 false = true → s94 = .pointer (some ⟨(ad.add (k * 2)).block, (ad.add (k * 2)).off + 1, none⟩)
 k5 : L.getD 5 false = true → s95 = .int .i64 py
 k6 : L.getD 6 false = true → s96 = .agg #[.string (I qy.num), .string (dn qy)]
 k7 : L.getD 7 false = true → s97 = .tuple #[.agg #[.string (I qq.num), .string (dn qq)], .int .i64 0]
 k8 : L.getD 8 false = true → s89 = .tuple #[.agg #[.string (I qq.num), .string (dn qq)], .int .i64 0]
 k9 : L.getD 9 false = true → s98 = .agg #[.string (I qq.num), .string (dn qq)]
 k10 : L.getD 10 false = true → s99 = .int .i64 0
 k11 : L.getD 11 false = true → s14 = .pointer (some ⟨mm, 0, none⟩)
 k13 : L.getD 13 false = true → s15 = .int .i64 0
 bx : BX w ((n12, fobj qp) :: ((n10, fobj qm') :: [(ad.block, Obj.cells cur 50 (0, 0)), (w.heap.size + 1, fobj qy), (w.heap.size, Obj.cells i.cells 27 (0, 0))])) W
 o12 : L.getD 11 false = true → L.getD 12 false = false → W.heap[mm]? = some (fz)
 b12 : L.getD 11 false = true → w.heap.size ≤ mm ∧ ∀ x, x ∈ ((n12, fobj qp) :: ((n10, fobj qm') :: [(ad.block, Obj.cells cur 50 (0, 0)), (w.heap.size + 1, fobj qy), (w.heap.size, Obj.cells i.cells 27 (0, 0))])) → x.1 ≠ mm
 n12 : L.getD 12 false = true → W.heap[mm]? = some (fobj qq)
 q12 : L.getD 12 false = true → L.getD 11 false = true
structure TCJ (w : World) (i : Inst) (ad : Addr) (cur : Array Value) (N cap k n10 n12 : Nat) (px py : Int) (qy qm' qp qq : Rat) (x0 x1 x2 x4 x6 x8 x10 x11 x16 x17 x18 x19 x20 x21 x22 x23 x24 x25 x26 x27 x28 x29 x30 x31 x32 x33 x34 x35 x36 x37 x38 x39 x40 x41 x42 x43 x44 x45 x46 x47 x48 x49 x50 x51 x52 x53 x54 x55 x56 x57 x58 x59 x60 x61 x62 x63 x64 x65 x66 x67 x68 x69 x70 x71 x72 x73 x74 x75 x76 x77 x78 x79 x80 x81 x82 x83 x84 x85 x86 x87 x88 x100 x101 x102 x103 x104 x105 x106 x107 x108 x109 x110 x111 x112 x113 x114 x115 x116 x117 x118 x119 x120 x121 x122 x123 x124 x125 x126 x127 x128 x129 x130 x131 x132 x133 x134 x135 x136 x137 x138 x139 x140 x141 x142 x143 x144 x145 x146 x147 x148 x149 x150 x151 x152 x153 x154 x155 x156 x157 x158 x159 x160 x161 x162 x163 x164 x165 x166 x167 x168 x169 x170 x171 x172 x173 x174 x175 x176 x177 x178 x179 x180 x181 x182 x183 x184 x185 x186 x187 x188 x189 x190 x191 : Value) (L : Array Bool) (a : Act) (W : World) : Prop where
 sz : L.size = 14
 fr : ∃ mm : Nat, ∃ s14 s15 s89 s90 s91 s92 s93 s94 s95 s96 s97 s98 s99 : Value, a = { tmps := #[x0, x1, x2, .pointer (some ⟨w.heap.size, 0, none⟩), x4, .pointer (some ⟨w.heap.size + 1, 0, none⟩), x6, .slice (some ad) N cap, x8, .int .i64 (k : Int), x10, x11, .pointer (some ⟨n12, 0, none⟩), .int .i64 0, s14, s15, x16, x17, x18, x19, x20, x21, x22, x23, x24, x25, x26, x27, x28, x29, x30, x31, x32, x33, x34, x35, x36, x37, x38, x39, x40, x41, x42, x43, x44, x45, x46, x47, x48, x49, x50, x51, x52, x53, x54, x55, x56, x57, x58, x59, x60, x61, x62, x63, x64, x65, x66, x67, x68, x69, x70, x71, x72, x73, x74, x75, x76, x77, x78, x79, x80, x81, x82, x83, x84, x85, x86, x87, x88, s89, s90, s91, s92, s93, s94, s95, s96, s97, s98, s99, x100, x101, x102, x103, x104, x105, x106, x107, x108, x109, x110, x111, x112, x113, x114, x115, x116, x117, x118, x119, x120, x121, x122, x123, x124, x125, x126, x127, x128, x129, x130, x131, x132, x133, x134, x135, x136, x137, x138, x139, x140, x141, x142, x143, x144, x145, x146, x147, x148, x149, x150, x151, x152, x153, x154, x155, x156, x157, x158, x159, x160, x161, x162, x163, x164, x165, x166, x167, x168, x169, x170, x171, x172, x173, x174, x175, x176, x177, x178, x179, x180, x181, x182, x183, x184, x185, x186, x187, x188, x189, x190, x191], defers := [] } ∧ TCV w i ad cur N cap k n10 n12 px py qy qm' qp qq mm L W s14 s15 s89 s90 s91 s92 s93 s94 s95 s96 s97 s98 s99
structure TDV (w : World) (i : Inst) (ad : Addr) (cur : Array Value) (n10 n12 n14 : Nat) (qy qm' qp qq q1 qg : Rat) (mm : Nat) (L : Array Bool) (W : World) (s16 s100 s101 s102 : Value) : Prop where
 k0 : L.getD 0 false = true → s100 = .agg #[.string (I q1.num), .string (dn q1)]
 k1 : L.getD 1 false = true → s101 = .agg #[.string (I qy.num), .string (dn qy)]
 k2 : L.getD 2 false = true → s102 = .agg #[.string (I qg.num), .string (dn qg)]
 k3 : L.getD 3 false = true → s16 = .pointer (some ⟨mm, 0, none⟩)
 bx : BX w ((n14, fobj qq) :: ((n12, fobj qp) :: ((n10, fobj qm') :: [(ad.block, Obj.cells cur 50 (0, 0)), (w.heap.size + 1, fobj qy), (w.heap.size, Obj.cells i.cells 27 (0, 0))]))) W
 o4 : L.getD 3 false = true → L.getD 4 false = false → W.heap[mm]? = some (fz)
 b4 : L.getD 3 false = true → w.heap.size ≤ mm ∧ ∀ x, x ∈ ((n14, fobj qq) :: ((n12, fobj qp) :: ((n10, fobj qm') :: [(ad.block, Obj.cells cur 50 (0, 0)), (w.heap.size + 1, fobj qy), (w.heap.size, Obj.cells i.cells 27 (0, 0))]))) → x.1 ≠ mm
 n4 : L.getD 4 false = true → W.heap[mm]? = some (fobj qg)
 q4 : L.getD 4 false = true → L.getD 3 false = true
structure TDJ (w : World) (i : Inst) (ad : Addr) (cur : Array Value) (n10 n12 n14 : Nat) (qy qm' qp qq q1 qg : Rat) (x0 x1 x2 x3 x4 x6 x7 x8 x9 x10 x11 x12 x13 x14 x15 x17 x18 x19 x20 x21 x22 x23 x24 x25 x26 x27 x28 x29 x30 x31 x32 x33 x34 x35 x36 x37 x38 x39 x40 x41 x42 x43 x44 x45 x46 x47 x48 x49 x50 x51 x52 x53 x54 x55 x56 x57 x58 x59 x60 x61 x62 x63 x64 x65 x66 x67 x68 x69 x70 x71 x72 x73 x74 x75 x76 x77 x78 x79 x80 x81 x82 x83 x84 x85 x86 x87 x88 x89 x90 x91 x92 x93 x94 x95 x96 x97 x98 x99 x103 x104 x105 x106 x107 x108 x109 x110 x111 x112 x113 x114 x115 x116 x117 x118 x119 x120 x121 x122 x123 x124 x125 x126 x127 x128 x129 x130 x131 x132 x133 x134 x135 x136 x137 x138 x139 x140 x141 x142 x143 x144 x145 x146 x147 x148 x149 x150 x151 x152 x153 x154 x155 x156 x157 x158 x159 x160 x161 x162 x163 x164 x165 x166 x167 x168 x169 x170 x171 x172 x173 x174 x175 x176 x177 x178 x179 x180 x181 x182 x183 x184 x185 x186 x187 x188 x189 x190 x191 : Value) (L : Array Bool) (a : Act) (W : World) : Prop where
 sz : L.size = 5
 fr : ∃ mm : Nat, ∃ s16 s100 s101 s102 : Value, a = { tmps := #[x0, x1, x2, x3, x4, .pointer (some ⟨w.heap.size + 1, 0, none⟩), x6, x7, x8, x9, x10, x11, x12, x13, x14, x15, s16, x17, x18, x19, x20, x21, x22, x23, x24, x25, x26, x27, x28, x29, x30, x31, x32, x33, x34, x35, x36, x37, x38, x39, x40, x41, x42, x43, x44, x45, x46, x47, x48, x49, x50, x51, x52, x53, x54, x55, x56, x57, x58, x59, x60, x61, x62, x63, x64, x65, x66, x67, x68, x69, x70, x71, x72, x73, x74, x75, x76, x77, x78, x79, x80, x81, x82, x83, x84, x85, x86, x87, x88, x89, x90, x91, x92, x93, x94, x95, x96, x97, x98, x99, s100, s101, s102, x103, x104, x105, x106, x107, x108, x109, x110, x111, x112, x113, x114, x115, x116, x117, x118, x119, x120, x121, x122, x123, x124, x125, x126, x127, x128, x129, x130, x131, x132, x133, x134, x135, x136, x137, x138, x139, x140, x141, x142, x143, x144, x145, x146, x147, x148, x149, x150, x151, x152, x153, x154, x155, x156, x157, x158, x159, x160, x161, x162, x163, x164, x165, x166, x167, x168, x169, x170, x171, x172, x173, x174, x175, x176, x177, x178, x179, x180, x181, x182, x183, x184, x185, x186, x187, x188, x189, x190, x191], defers := [] } ∧ TDV w i ad cur n10 n12 n14 qy qm' qp qq q1 qg mm L W s16 s100 s101 s102
structure TEV (w : World) (i : Inst) (ad : Addr) (cur : Array Value) (n10 n12 n14 n16 : Nat) (qy qm' qp qq qg qs : Rat)  (L : Array Bool) (W : World) (s103 s104 s105 s106 s107 s108 s109 s110 s111 s112 s113 s114 s115 s116 s117 s118 s119 s120 s121 : Value) : Prop where
 k0 : L.getD 0 false = true → s103 = .int .i64 0
 k1 : L.getD 1 false = true → s104 = .bool false
 k2 : L.getD 2 false = true → s105 = .bool false
 k3 : L.getD 3 false = true → s106 = .int .i64 0
 k4 : L.getD 4 false = true → s107 = .bool false
 k5 : L.getD 5 false = true → s108 = .bool false
 k6 : L.getD 6 false = true → s109 = .bool false
 k7 : L.getD 7 false = true → s110 = .int .i64 0
 k8 : L.getD 8 false = true → s111 = .bool false
 k9 : L.getD 9 false = true → s112 = .bool false
 k10 : L.getD 10 false = true → s113 = .bool false
 k11 : L.getD 11 false = true → s114 = .agg #[.string (I qp.num), .string (dn qp)]
 k12 : L.getD 12 false = true → s115 = .agg #[.string (I qg.num), .string (dn qg)]
 k13 : L.getD 13 false = true → s116 = .agg #[.string (I qs.num), .string (dn qs)]
 k14 : L.getD 14 false = true → s117 = .agg #[.string (I qq.num), .string (dn qq)]
 k15 : L.getD 15 false = true → s118 = .agg #[.string (I qm'.num), .string (dn qm')]
 k16 : L.getD 16 false = true → s119 = .agg #[.string (I qs.num), .string (dn qs)]
 k17 : L.getD 17 false = true → s120 = .bool false
 k18 : L.getD 18 false = true → s121 = .bool false
 bx : BX w ((n16, fobj qg) :: ((n14, fobj qq) :: ((n12, fobj qp) :: ((n10, fobj qm') :: [(ad.block, Obj.cells cur 50 (0, 0)), (w.heap.size + 1, fobj qy), (w.heap.size, Obj.cells i.cells 27 (0, 0))])))) W
structure TEJ (w : World) (i : Inst) (ad : Addr) (cur : Array Value) (n10 n12 n14 n16 : Nat) (qy qm' qp qq qg qs : Rat) (x0 x1 x2 x3 x4 x5 x6 x7 x8 x9 x17 x18 x19 x20 x21 x22 x23 x24 x25 x26 x27 x28 x29 x30 x31 x32 x33 x34 x35 x36 x37 x38 x39 x40 x41 x42 x43 x44 x45 x46 x47 x48 x49 x50 x51 x52 x53 x54 x55 x56 x57 x58 x59 x60 x61 x62 x63 x64 x65 x66 x67 x68 x69 x70 x71 x72 x73 x74 x75 x76 x77 x78 x79 x80 x81 x82 x83 x84 x85 x86 x87 x88 x89 x90 x91 x92 x93 x94 x95 x96 x97 x98 x99 x100 x101 x102 x122 x123 x124 x125 x126 x127 x128 x129 x130 x131 x132 x133 x134 x135 x136 x137 x138 x139 x140 x141 x142 x143 x144 x145 x146 x147 x148 x149 x150 x151 x152 x153 x154 x155 x156 x157 x158 x159 x160 x161 x162 x163 x164 x165 x166 x167 x168 x169 x170 x171 x172 x173 x174 x175 x176 x177 x178 x179 x180 x181 x182 x183 x184 x185 x186 x187 x188 x189 x190 x191 : Value) (L : Array Bool) (a : Act) (W : World) : Prop where
 sz : L.size = 19
 fr : ∃ s103 s104 s105 s106 s107 s108 s109 s110 s111 s112 s113 s114 s115 s116 s117 s118 s119 s120 s121 : Value, a = { tmps := #[x0, x1, x2, x3, x4, x5, x6, x7, x8, x9, .pointer (some ⟨n10, 0, none⟩), .int .i64 0, .pointer (some ⟨n12, 0, none⟩), .int .i64 0, .pointer (some ⟨n14, 0, none⟩), .int .i64 0, .pointer (some ⟨n16, 0, none⟩), x17, x18, x19, x20, x21, x22, x23, x24, x25, x26, x27, x28, x29, x30, x31, x32, x33, x34, x35, x36, x37, x38, x39, x40, x41, x42, x43, x44, x45, x46, x47, x48, x49, x50, x51, x52, x53, x54, x55, x56, x57, x58, x59, x60, x61, x62, x63, x64, x65, x66, x67, x68, x69, x70, x71, x72, x73, x74, x75, x76, x77, x78, x79, x80, x81, x82, x83, x84, x85, x86, x87, x88, x89, x90, x91, x92, x93, x94, x95, x96, x97, x98, x99, x100, x101, x102, s103, s104, s105, s106, s107, s108, s109, s110, s111, s112, s113, s114, s115, s116, s117, s118, s119, s120, s121, x122, x123, x124, x125, x126, x127, x128, x129, x130, x131, x132, x133, x134, x135, x136, x137, x138, x139, x140, x141, x142, x143, x144, x145, x146, x147, x148, x149, x150, x151, x152, x153, x154, x155, x156, x157, x158, x159, x160, x161, x162, x163, x164, x165, x166, x167, x168, x169, x170, x171, x172, x173, x174, x175, x176, x177, x178, x179, x180, x181, x182, x183, x184, x185, x186, x187, x188, x189, x190, x191], defers := [] } ∧ TEV w i ad cur n10 n12 n14 n16 qy qm' qp qq qg qs  L W s103 s104 s105 s106 s107 s108 s109 s110 s111 s112 s113 s114 s115 s116 s117 s118 s119 s120 s121
structure TFV (w : World) (i : Inst) (ad : Addr) (cur : Array Value) (N cap k n22 : Nat) (px py : Int) (qy qr qf : Rat) (mm : Nat) (L : Array Bool) (W : World) (s24 s25 s162 s163 s164 s165 s166 s167 s168 s169 s170 s171 s172 : Value) : Prop where
 k0 : L.getD 0 false = true → s163 = .agg #[.string i.id, .int .i64 i.kind, .string i.cur, .int .i64 i.places, .int .i64 i.issued, .int .i64 i.matures, .string i.fn, .string i.fd, .string i.cn, .string i.cd, .int .i64 i.months, .int .i64 i.count, .string i.other, .string i.sn, .string i.sd]
 k1 : L.getD 1 false = true → s164 = .slice (some ad) N cap
 k2 : L.getD 2 false = true → s165 = .int .i64 (k : Int)
 k3 : L.getD 3 false = true → s166 = .pointer (some (ad.add (k * 2)))
 k4 : L.getD 4 false = true → s167 = .pointer (some (ad.add (k * 2)))
 k5 : L.getD 5 false = true → s168 = .int .i64 px
 k6 : L.getD 6 false = true → s169 = .agg #[.string (I qr.num), .string (dn qr)]
 k7 : L.getD 7 false = true → s170 = .tuple #[.agg #[.string i.fn, .string i.fd], .int .i64 0]
 k8 : L.getD 8 false = true → s162 = .tuple #[.agg #[.string i.fn, .string i.fd], .int .i64 0]
 k9 : L.getD 9 false = true → s171 = .agg #[.string i.fn, .string i.fd]
 k10 : L.getD 10 false = true → s172 = .int .i64 0
 k11 : L.getD 11 false = true → s24 = .pointer (some ⟨mm, 0, none⟩)
 k13 : L.getD 13 false = true → s25 = .int .i64 0
 bx : BX w [(n22, fobj qr), (ad.block, Obj.cells cur 50 (0, 0)), (w.heap.size + 1, fobj qy), (w.heap.size, Obj.cells i.cells 27 (0, 0))] W
 o12 : L.getD 11 false = true → L.getD 12 false = false → W.heap[mm]? = some (fz)
 b12 : L.getD 11 false = true → w.heap.size ≤ mm ∧ ∀ x, x ∈ [(n22, fobj qr), (ad.block, Obj.cells cur 50 (0, 0)), (w.heap.size + 1, fobj qy), (w.heap.size, Obj.cells i.cells 27 (0, 0))] → x.1 ≠ mm
 n12 : L.getD 12 false = true → W.heap[mm]? = some (fobj qf)
 q12 : L.getD 12 false = true → L.getD 11 false = true
structure TFJ (w : World) (i : Inst) (ad : Addr) (cur : Array Value) (N cap k n22 : Nat) (px py : Int) (qy qr qf : Rat) (x0 x1 x2 x4 x5 x6 x8 x10 x11 x12 x13 x14 x15 x16 x17 x18 x19 x20 x21 x23 x26 x27 x28 x29 x30 x31 x32 x33 x34 x35 x36 x37 x38 x39 x40 x41 x42 x43 x44 x45 x46 x47 x48 x49 x50 x51 x52 x53 x54 x55 x56 x57 x58 x59 x60 x61 x62 x63 x64 x65 x66 x67 x68 x69 x70 x71 x72 x73 x74 x75 x76 x77 x78 x79 x80 x81 x82 x83 x84 x85 x86 x87 x88 x89 x90 x91 x92 x93 x94 x95 x96 x97 x98 x99 x100 x101 x102 x103 x104 x105 x106 x107 x108 x109 x110 x111 x112 x113 x114 x115 x116 x117 x118 x119 x120 x121 x122 x123 x124 x125 x126 x127 x128 x129 x130 x131 x132 x133 x134 x135 x136 x137 x138 x139 x140 x141 x142 x143 x144 x145 x146 x147 x148 x149 x150 x151 x152 x153 x154 x155 x156 x157 x158 x159 x160 x161 x173 x174 x175 x176 x177 x178 x179 x180 x181 x182 x183 x184 x185 x186 x187 x188 x189 x190 x191 : Value) (L : Array Bool) (a : Act) (W : World) : Prop where
 sz : L.size = 14
 fr : ∃ mm : Nat, ∃ s24 s25 s162 s163 s164 s165 s166 s167 s168 s169 s170 s171 s172 : Value, a = { tmps := #[x0, x1, x2, .pointer (some ⟨w.heap.size, 0, none⟩), x4, x5, x6, .slice (some ad) N cap, x8, .int .i64 (k : Int), x10, x11, x12, x13, x14, x15, x16, x17, x18, x19, x20, x21, .pointer (some ⟨n22, 0, none⟩), x23, s24, s25, x26, x27, x28, x29, x30, x31, x32, x33, x34, x35, x36, x37, x38, x39, x40, x41, x42, x43, x44, x45, x46, x47, x48, x49, x50, x51, x52, x53, x54, x55, x56, x57, x58, x59, x60, x61, x62, x63, x64, x65, x66, x67, x68, x69, x70, x71, x72, x73, x74, x75, x76, x77, x78, x79, x80, x81, x82, x83, x84, x85, x86, x87, x88, x89, x90, x91, x92, x93, x94, x95, x96, x97, x98, x99, x100, x101, x102, x103, x104, x105, x106, x107, x108, x109, x110, x111, x112, x113, x114, x115, x116, x117, x118, x119, x120, x121, x122, x123, x124, x125, x126, x127, x128, x129, x130, x131, x132, x133, x134, x135, x136, x137, x138, x139, x140, x141, x142, x143, x144, x145, x146, x147, x148, x149, x150, x151, x152, x153, x154, x155, x156, x157, x158, x159, x160, x161, s162, s163, s164, s165, s166, s167, s168, s169, s170, s171, s172, x173, x174, x175, x176, x177, x178, x179, x180, x181, x182, x183, x184, x185, x186, x187, x188, x189, x190, x191], defers := [] } ∧ TFV w i ad cur N cap k n22 px py qy qr qf mm L W s24 s25 s162 s163 s164 s165 s166 s167 s168 s169 s170 s171 s172
theorem BondSteps_any (i : Inst) (n : Int) (n0 : 0 ≤ n) (n1 : n ≤ 255) (yn yd : ByteArray) (w : World) (ht : Tabs w) :
 Calls Tryz.prog 5 #[i.enc, .int .u8 n, .agg #[.string yn, .string yd]] w fun e w' => e = .returned (.bool true) ∧ Below w.heap.size w w' := by
 have HT := hI ht
 obtain ⟨W0, hW0', hB0, hz, k0, k1⟩ := box2 w (.cells i.cells 27) (.cells #[.string yn, .string yd] 25)
 have hW0 := hW0'.symm
 have HG0 : Hid (BX w [(w.heap.size + 1, Obj.cells #[.string yn, .string yd] 25 (0, 0)), (w.heap.size, Obj.cells i.cells 27 (0, 0))] W0) := ⟨hB0, fun x hx => by
  rcases List.mem_cons.1 hx with rfl | hx
  ·exact k1
  ·rcases List.mem_cons.1 hx with rfl | hx
   ·exact k0
   ·cases hx⟩
 clear hB0 hz k0 k1 ht hW0'
 unfold Inst.enc Inst.cells at *
 go_enter Tryz.func5, Tryz.ntmps5
 go_wp2_with fail
 obtain ⟨fb, hfb⟩ : ∃ b, fineB i = b := ⟨_, rfl⟩
 obtain ⟨sb, hsb⟩ : ∃ b, propB (Short13 [(yn, yd)]) = b := ⟨_, rfl⟩
 obtain ⟨ky, hky⟩ : ∃ k : Int, (CanQ yn yd ∧ k = 0) ∨ (¬ CanQ yn yd ∧ k = 1) := by
  by_cases h : CanQ yn yd
  ·exact ⟨0, .inl ⟨h, rfl⟩⟩
  ·exact ⟨1, .inr ⟨h, rfl⟩⟩
 obtain ⟨qm, hqm⟩ : ∃ q : Rat, (-1 : Rat) = q := ⟨_, rfl⟩
 obtain ⟨zc, hzc⟩ : ∃ z, cmpI (fv yn yd - qm).num 0 = z := ⟨_, rfl⟩
 obtain ⟨zb, hzb⟩ : ∃ b, decide (zc ≤ 0) = b := ⟨_, rfl⟩
 obtain ⟨xb, hx⟩ : ∃ xb : Bool, (fb = false ∧ xb = true) ∨ (fb = true ∧ sb = false ∧ xb = true) ∨ (fb = true ∧ sb = true ∧ ky = 1 ∧ xb = true) ∨ (fb = true ∧ sb = true ∧ ky = 0 ∧ zb = true ∧ xb = true) ∨ (fb = true ∧ sb = true ∧ ky = 0 ∧ zb = false ∧ xb = false) := by
  cases fb
  case false => exact ⟨true, .inl ⟨rfl, rfl⟩⟩
  cases sb
  case false => exact ⟨true, .inr (.inl ⟨rfl, rfl, rfl⟩)⟩
  rcases hky with ⟨_, rfl⟩ | ⟨_, rfl⟩
  case inr => exact ⟨true, .inr (.inr (.inl ⟨rfl, rfl, rfl, rfl⟩))⟩
  cases zb
  case true => exact ⟨true, .inr (.inr (.inr (.inl ⟨rfl, rfl, rfl, rfl, rfl⟩)))⟩
  exact ⟨false, .inr (.inr (.inr (.inr (⟨rfl, rfl, rfl, rfl, rfl⟩))))⟩
 have HX := hI hx
 have HFI : Hid (∀ W, BX w [(w.heap.size + 1, Obj.cells #[.string yn, .string yd] 25 (0, 0)), (w.heap.size, Obj.cells i.cells 27 (0, 0))] W → Calls Tryz.prog 19 #[.agg #[.string i.id, .int .i64 i.kind, .string i.cur, .int .i64 i.places, .int .i64 i.issued, .int .i64 i.matures, .string i.fn, .string i.fd, .string i.cn, .string i.cd, .int .i64 i.months, .int .i64 i.count, .string i.other, .string i.sn, .string i.sd]] W (fun e wn => e = .returned (.bool fb) ∧ BX w [(w.heap.size + 1, Obj.cells #[.string yn, .string yd] 25 (0, 0)), (w.heap.size, Obj.cells i.cells 27 (0, 0))] wn ∧ TAC w i yn yd wn)) := fun W hW => by
  refine (fine11_ex i W).mono ?_
  rintro e wn ⟨rfl, bn⟩
  have h := hW.below bn
  rw [hfb]
  exact ⟨rfl, h, .of h⟩
 have HLO : Hid (∀ W, BX w [(w.heap.size + 1, Obj.cells #[.string yn, .string yd] 25 (0, 0)), (w.heap.size, Obj.cells i.cells 27 (0, 0))] W → Calls Tryz.prog 11 #[.slice (some ⟨W.heap.size, 0, none⟩) 1 1] (W.alloc (.cells #[.string yn, .string yd] 25)) (fun e wn => e = .returned (.bool (!sb)) ∧ BX w [(w.heap.size + 1, Obj.cells #[.string yn, .string yd] 25 (0, 0)), (w.heap.size, Obj.cells i.cells 27 (0, 0))] wn ∧ TAC w i yn yd wn)) := fun W hW => by
  have b1 : Below W.heap.size W (W.alloc (.cells #[.string yn, .string yd] 25)) := (Below.refl _ W).alloc (Nat.le_refl _) _
  refine (long11_ex [(yn, yd)] 1 W.heap.size rfl (by omega) _ (heap_alloc_new W _)).mono ?_
  rintro e wn ⟨rfl, rfl⟩
  have h := hW.below b1
  rw [hsb]
  exact ⟨rfl, h, .of h⟩
 have HCKy : Hid (sb = true → ∀ W, BX w [(w.heap.size + 1, Obj.cells #[.string yn, .string yd] 25 (0, 0)), (w.heap.size, Obj.cells i.cells 27 (0, 0))] W → Calls Tryz.prog 20 #[.agg #[.string yn, .string yd]] W (fun e wn => e = .returned (.int .i64 ky) ∧ BX w [(w.heap.size + 1, Obj.cells #[.string yn, .string yd] 25 (0, 0)), (w.heap.size, Obj.cells i.cells 27 (0, 0))] wn ∧ TAC w i yn yd wn)) := fun hs W hW => by
  have h13 := propB_iff.1 (hsb.trans hs)
  rcases hky with ⟨hc, rfl⟩ | ⟨hc, rfl⟩
  ·refine (fCheck_yes yn yd W (by have := (h13 (yn, yd) (by simp)).1; simp only at this; omega) (by have := (h13 (yn, yd) (by simp)).2; simp only at this; omega) hc (HT.out.below hW.1)).mono ?_
   rintro e wn ⟨rfl, bn⟩
   have h := hW.below bn
   exact ⟨rfl, h, .of h⟩
  ·refine (fCheck_no yn yd W (by have := (h13 (yn, yd) (by simp)).1; simp only at this; omega) (by have := (h13 (yn, yd) (by simp)).2; simp only at this; omega) hc (HT.out.below hW.1)).mono ?_
   rintro e wn ⟨rfl, bn⟩
   have h := hW.below bn
   exact ⟨rfl, h, .of h⟩
 have HRM : Hid (∀ W, BX w [(w.heap.size + 1, Obj.cells #[.string yn, .string yd] 25 (0, 0)), (w.heap.size, Obj.cells i.cells 27 (0, 0))] W → Calls Tryz.prog 22 #[.int .i64 (-1), .int .i64 1] W (fun e wn => e = .returned (.agg #[.string (I qm.num), .string (dn qm)]) ∧ BX w [(w.heap.size + 1, Obj.cells #[.string yn, .string yd] 25 (0, 0)), (w.heap.size, Obj.cells i.cells 27 (0, 0))] wn ∧ TAC w i yn yd wn)) := fun W hW => by
  refine (ratio11_to (-1) 1 qm (by rw [← hqm]; kernel_rfl) (by omega) (by omega) (by omega) (by omega) (by omega) W (HT.out.below hW.1)).mono ?_
  rintro e wn ⟨rfl, bn⟩
  have h := hW.below bn
  exact ⟨rfl, h, .of h⟩
 have HCM : Hid (sb = true → ∀ W, BX w [(w.heap.size + 1, Obj.cells #[.string yn, .string yd] 25 (0, 0)), (w.heap.size, Obj.cells i.cells 27 (0, 0))] W → Calls Tryz.prog 21 #[.agg #[.string yn, .string yd], .agg #[.string (I qm.num), .string (dn qm)]] W (fun e wn => e = .returned (.int .i64 zc) ∧ BX w [(w.heap.size + 1, Obj.cells #[.string yn, .string yd] 25 (0, 0)), (w.heap.size, Obj.cells i.cells 27 (0, 0))] wn ∧ TAC w i yn yd wn)) := fun hs W hW => by
  have h13 := propB_iff.1 (hsb.trans hs)
  have hqs : (I qm.num).size ≤ 900000 ∧ (dn qm).size ≤ 900000 := by rw [← hqm]; exact ⟨by decide, by decide⟩
  have h := fCompare_any yn yd (I qm.num) (dn qm) W (by have := (h13 (yn, yd) (by simp)).1; simp only at this; omega) (by have := (h13 (yn, yd) (by simp)).2; simp only at this; omega) hqs.1 hqs.2 (HT.out.below hW.1)
  rw [fv_enc, hzc] at h
  refine h.mono ?_
  rintro e wn ⟨rfl, bn⟩
  have h := hW.below bn
  exact ⟨rfl, h, .of h⟩
 have HOK : Hid (xb = false → Fine11 i ∧ Short13 [(yn, yd)] ∧ CanQ yn yd ∧ 0 < 1 + fv yn yd) := fun hxb => by
  rcases hx with ⟨_, rfl⟩ | ⟨_, _, rfl⟩ | ⟨_, _, _, rfl⟩ | ⟨_, _, _, _, rfl⟩ | ⟨rfl, rfl, rfl, rfl, rfl⟩
  all_goals first | (cases hxb; done) | skip
  have hz := (cmpz (fv yn yd - qm)).2.1
  rw [hzc, ← hqm] at hz
  have hz0 := of_decide_eq_false hzb
  refine ⟨fineB_yes hfb, propB_iff.1 hsb, (hky.elim (fun h => h.1) (fun h => by cases h.2)), by have := hz.1 (by omega); grind⟩
 clear hfb hsb hqm hzc hky
 go_cut [44] (fun v wx => v = .bool xb ∧ BX w [(w.heap.size + 1, Obj.cells #[.string yn, .string yd] 25 (0, 0)), (w.heap.size, Obj.cells i.cells 27 (0, 0))] wx)
 case first =>
  as_aux_lemma =>
  have HXX := hI hx
  clear hx
  have hg : BX w [(w.heap.size + 1, Obj.cells #[.string yn, .string yd] 25 (0, 0)), (w.heap.size, Obj.cells i.cells 27 (0, 0))] W0.drew := ⟨HG0.out.1.drew, HG0.out.2⟩
  obtain ⟨c0, c1, c2, c3, c4, c5, c6, c7, c8, c9, c10, c11, c12, c13, c14, y0, y1⟩ := TAC.of HG0.out
  clear HG0 hW0
  rcases HXX.out with ⟨rfl, rfl⟩ | ⟨rfl, rfl, rfl⟩ | ⟨rfl, rfl, rfl, rfl⟩ | ⟨rfl, rfl, rfl, rfl, rfl⟩ | ⟨rfl, rfl, rfl, rfl, rfl⟩
  all_goals
   try replace HCKy := hI (HCKy.out rfl)
   try replace HCM := hI (HCM.out rfl)
  all_goals
   first
   | go_region_with (first
      | (go_at_call 19; refine (HFI.out _ hg).mono ?_; clear hg c0 c1 c2 c3 c4 c5 c6 c7 c8 c9 c10 c11 c12 c13 c14 y0 y1; rintro e wn ⟨rfl, hg, c0, c1, c2, c3, c4, c5, c6, c7, c8, c9, c10, c11, c12, c13, c14, y0, y1⟩)
      | (go_at_call 11; refine (HLO.out _ hg).mono ?_; clear hg c0 c1 c2 c3 c4 c5 c6 c7 c8 c9 c10 c11 c12 c13 c14 y0 y1; rintro e wn ⟨rfl, hg, c0, c1, c2, c3, c4, c5, c6, c7, c8, c9, c10, c11, c12, c13, c14, y0, y1⟩)
      | (go_at_call 20; refine (HCKy.out _ hg).mono ?_; clear hg c0 c1 c2 c3 c4 c5 c6 c7 c8 c9 c10 c11 c12 c13 c14 y0 y1; rintro e wn ⟨rfl, hg, c0, c1, c2, c3, c4, c5, c6, c7, c8, c9, c10, c11, c12, c13, c14, y0, y1⟩)
      | (go_at_call 22; refine (HRM.out _ hg).mono ?_; clear hg c0 c1 c2 c3 c4 c5 c6 c7 c8 c9 c10 c11 c12 c13 c14 y0 y1; rintro e wn ⟨rfl, hg, c0, c1, c2, c3, c4, c5, c6, c7, c8, c9, c10, c11, c12, c13, c14, y0, y1⟩)
      | (go_at_call 21; refine (HCM.out _ hg).mono ?_; clear hg c0 c1 c2 c3 c4 c5 c6 c7 c8 c9 c10 c11 c12 c13 c14 y0 y1; rintro e wn ⟨rfl, hg, c0, c1, c2, c3, c4, c5, c6, c7, c8, c9, c10, c11, c12, c13, c14, y0, y1⟩))
   | fail "the region fell"
  all_goals go_wp2_with fail
  all_goals go_meet
  all_goals exact ⟨rfl, hg⟩
 case rest =>
  obtain ⟨rfl, hg1⟩ := hcut
  have HG1 := hI hg1
  clear hx hg1 HX HFI HLO HCKy HRM HCM HG0 hW0 hzb
  cases xb
  case true =>
   clear HOK
   go_wp2_with fail
   refine (awake11_any _ (HT.out.below HG1.out.1)).mono ?_
   rintro e wz ⟨rfl, xz⟩
   have HBZ := hI (HG1.out.below xz).1
   clear xz
   go_wp2_with fail
   go_ret
   exact ⟨rfl, HBZ.out⟩
  have hok := HOK.out rfl
  clear HOK
  obtain ⟨hfine, h13, hcy, hyp⟩ := hok
  obtain ⟨htiny, hbd, hcut⟩ := hfine
  have hsy := h13 (yn, yd) (by simp)
  simp only at hsy
  clear h13
  have hfew : Few i := by show (cuts i.issued i.matures i.months).length ≤ 399; omega
  obtain ⟨N, hN⟩ : ∃ N, (perL i).length = N := ⟨_, rfl⟩
  have hN0 : 0 < N := by have := per_pos i; omega
  have hN15 : N ≤ 15 := by
   have := pers_len i.issued i.matures i.months
   have h1 : (pers i.issued i.matures i.months).length = N := hN
   omega
  have HH := hI hbd
  have HN := hI hN
  have HFEW := hI hfew
  have HTI := hI htiny
  have HPER := hI (fun W (hW : Tabs W) => bPer_few hbd hfew W hW)
  rw [hN] at HPER
  unfold Inst.enc Inst.cells at HPER
  obtain ⟨k, hk, hkN⟩ : ∃ k : Nat, Int.tmod n (N : Int) = (k : Int) ∧ k < N := by
   have h1 := Int.tmod_lt_of_pos n (b := (N : Int)) (by omega)
   have h2 := Int.tmod_nonneg (N : Int) n0
   exact ⟨(Int.tmod n N).toNat, by omega, by omega⟩
  obtain ⟨⟨px, py⟩, hp⟩ : ∃ p, (perL i)[k]? = some p := ⟨_, List.getElem?_eq_getElem (by rw [hN]; exact hkN)⟩
  have hlt := per_lt hbd hp
  have hin := per_in hbd hp
  simp only at hlt hin
  obtain ⟨hi0, hi1, hi2, hi3⟩ := hin
  obtain ⟨qf, hqf⟩ : ∃ q : Rat, fv i.fn i.fd = q := ⟨_, rfl⟩
  obtain ⟨qy, hqy⟩ : ∃ q : Rat, fv yn yd = q := ⟨_, rfl⟩
  obtain ⟨q1, hq1⟩ : ∃ q : Rat, (1 : Rat) = q := ⟨_, rfl⟩
  obtain ⟨qc, hqc⟩ : ∃ q : Rat, coupQ i k = q := ⟨_, rfl⟩
  obtain ⟨q0, hq0⟩ : ∃ q : Rat, coupQ i 0 = q := ⟨_, rfl⟩
  obtain ⟨qm', hqam⟩ : ∃ q : Rat, qc + (if k + 1 = N then qf else 0) = q := ⟨_, rfl⟩
  rw [hqy] at hyp
  obtain ⟨qg, hqg⟩ : ∃ q : Rat, q1 + qy = q := ⟨_, rfl⟩
  have hqg2 : 1 + qy = qg := by rw [hq1]; exact hqg
  obtain ⟨qp, hqp⟩ : ∃ q : Rat, (if px = i.matures then 0 else presQ i px qy) = q := ⟨_, rfl⟩
  obtain ⟨qq, hqq⟩ : ∃ q : Rat, (if py = i.matures then 0 else presQ i py qy) = q := ⟨_, rfl⟩
  obtain ⟨qs, hqs⟩ : ∃ q : Rat, qp * qg = q := ⟨_, rfl⟩
  have e1 : qq + qm' = qs := by
   have h1 := pres_step hbd hp (y := qy) (by grind)
   simp only at h1
   rw [hqc, hqf, hN, hqam, hqg2] at h1
   have h2 : qp = presQ i px qy := by rw [← hqp, if_neg (by omega)]
   have h3 : qq = pv qg ((amtL i).drop (k + 1)) := by
    rw [← hqq]
    rcases Nat.lt_or_ge (k + 1) N with h | h
    ·have h4 := pres_end hbd hp (by rw [hN]; exact h) qy
     have h5 : py ≠ i.matures := by
      obtain ⟨⟨rx, ry⟩, hr⟩ : ∃ p, (perL i)[k + 1]? = some p := ⟨_, List.getElem?_eq_getElem (by rw [hN]; exact h)⟩
      have e := per_next hp hr
      have l := per_lt hbd hr
      have m := per_in hbd hr
      simp only at e l m
      omega
     rw [if_neg h5, h4, hqg2]
    ·have h4 := per_last hp (by rw [hN]; omega)
     simp only at h4
     have h5 : (amtL i).drop (k + 1) = [] := by rw [show k + 1 = (perL i).length from by omega]; exact amt_dropN i
     rw [if_pos h4, h5]
     rfl
   rw [← hqs, h2, h1, h3]
   exact Rat.add_comm _ _
  have hf := hbd.fQ
  unfold CanQ at hf
  rw [hqf] at hf
  have hy := hcy
  unfold CanQ at hy
  rw [hqy] at hy
  have BF : BdQ qf 20 := by rw [← hqf]; exact fv_bd _ _ hbd.f1 (by have := hbd.f2; omega)
  have BY : BdQ qy 60 := by rw [← hqy]; exact fv_bd _ _ (by omega) (by omega)
  have B1 : BdQ q1 1 := by rw [← hq1]; exact BdQ.int (z := 1) (by decide) (by omega)
  have BC : BdQ qc 59 := hqc ▸ coupQ_bd hbd (by rw [hN]; exact hkN)
  have B0 : BdQ q0 59 := hq0 ▸ coupQ_bd hbd (by rw [hN]; exact hN0)
  have BM : BdQ qm' 100 := by
   rw [← hqam]
   refine (BdQ.add (b := 20) BC ?_).mono (by omega)
   split
   ·exact BF
   ·exact BdQ.zero (by omega)
  have BG : BdQ qg 70 := hqg ▸ (BdQ.add B1 BY).mono (by omega)
  have BP : BdQ qp 3000 := by rw [← hqp]; exact presQ_bd hbd (by rw [hN]; exact hN15) hi0 hi1 BY hyp
  have BQ : BdQ qq 3000 := by rw [← hqq]; exact presQ_bd hbd (by rw [hN]; exact hN15) hi2 hi3 BY hyp
  have HCP : Hid (∀ W, Tabs W → Calls Tryz.prog 27 #[.agg #[.string i.id, .int .i64 i.kind, .string i.cur, .int .i64 i.places, .int .i64 i.issued, .int .i64 i.matures, .string i.fn, .string i.fd, .string i.cn, .string i.cd, .int .i64 i.months, .int .i64 i.count, .string i.other, .string i.sn, .string i.sd], .int .i64 (k : Int)] W fun e w' => e = .returned (.tuple #[.agg #[.string (I qc.num), .string (dn qc)], .int .i64 0]) ∧ Below W.heap.size W w') := fun W hW => by
   have h := bCoup_few hbd hfew (k := k) (by rw [hN]; exact hkN) W hW
   rw [hqc] at h
   exact h
  have HC0 : Hid (∀ W, Tabs W → Calls Tryz.prog 27 #[.agg #[.string i.id, .int .i64 i.kind, .string i.cur, .int .i64 i.places, .int .i64 i.issued, .int .i64 i.matures, .string i.fn, .string i.fd, .string i.cn, .string i.cd, .int .i64 i.months, .int .i64 i.count, .string i.other, .string i.sn, .string i.sd], .int .i64 0] W fun e w' => e = .returned (.tuple #[.agg #[.string (I q0.num), .string (dn q0)], .int .i64 0]) ∧ Below W.heap.size W w') := fun W hW => by
   have h := bCoup_few hbd hfew (k := 0) (by rw [hN]; exact hN0) W hW
   rw [hq0] at h
   exact h
  have HCJ : Hid (∀ j : Nat, j < N → ∀ W, Tabs W → Calls Tryz.prog 27 #[.agg #[.string i.id, .int .i64 i.kind, .string i.cur, .int .i64 i.places, .int .i64 i.issued, .int .i64 i.matures, .string i.fn, .string i.fd, .string i.cn, .string i.cd, .int .i64 i.months, .int .i64 i.count, .string i.other, .string i.sn, .string i.sd], .int .i64 (j : Int)] W fun e w' => e = .returned (.tuple #[.agg #[.string (I (coupQ i j).num), .string (dn (coupQ i j))], .int .i64 0]) ∧ Below W.heap.size W w') := fun j hj W hW => bCoup_few hbd hfew (k := j) (by rw [hN]; exact hj) W hW
  have HAF : Hid (∀ W, Tabs W → Calls Tryz.prog 28 #[.agg #[.string (I qc.num), .string (dn qc)], .agg #[.string i.fn, .string i.fd]] W fun e w' => e = .returned (.agg #[.string (I (qc + qf).num), .string (dn (qc + qf))]) ∧ Below W.heap.size W w') := fun W hW => by
   have h := fAddQ BC BF (by omega) (by omega) W hW
   unfold fenc at h
   rw [← hf.1, ← hf.2] at h
   exact h
  have HPX : Hid (∀ W, Tabs W → Calls Tryz.prog 15 #[.agg #[.string i.id, .int .i64 i.kind, .string i.cur, .int .i64 i.places, .int .i64 i.issued, .int .i64 i.matures, .string i.fn, .string i.fd, .string i.cn, .string i.cd, .int .i64 i.months, .int .i64 i.count, .string i.other, .string i.sn, .string i.sd], .int .i64 px, .agg #[.string (I qy.num), .string (dn qy)]] W fun e w' => e = .returned (.tuple #[.agg #[.string (I qp.num), .string (dn qp)], .int .i64 0]) ∧ Below W.heap.size W w') := fun W hW => by
   have h := bPres_few hbd hfew hi0 hi1 yn yd (by omega) (by omega) hcy (by rw [hqy]; exact hyp) W hW
   rw [hqy, hqp] at h
   unfold fenc at h
   rw [hy.1, hy.2] at h
   exact h
  have HPY : Hid (∀ W, Tabs W → Calls Tryz.prog 15 #[.agg #[.string i.id, .int .i64 i.kind, .string i.cur, .int .i64 i.places, .int .i64 i.issued, .int .i64 i.matures, .string i.fn, .string i.fd, .string i.cn, .string i.cd, .int .i64 i.months, .int .i64 i.count, .string i.other, .string i.sn, .string i.sd], .int .i64 py, .agg #[.string (I qy.num), .string (dn qy)]] W fun e w' => e = .returned (.tuple #[.agg #[.string (I qq.num), .string (dn qq)], .int .i64 0]) ∧ Below W.heap.size W w') := fun W hW => by
   have h := bPres_few hbd hfew hi2 hi3 yn yd (by omega) (by omega) hcy (by rw [hqy]; exact hyp) W hW
   rw [hqy, hqq] at h
   unfold fenc at h
   rw [hy.1, hy.2] at h
   exact h
  have HR1 : Hid (∀ W, Tabs W → Calls Tryz.prog 22 #[.int .i64 1, .int .i64 1] W fun e w' => e = .returned (.agg #[.string (I q1.num), .string (dn q1)]) ∧ Below W.heap.size W w') := fun W hW => by
   exact ratio11_to 1 1 q1 (by rw [← hq1]; kernel_rfl) (by omega) (by omega) (by omega) (by omega) (by omega) W hW
  have HAG : Hid (∀ W, Tabs W → Calls Tryz.prog 28 #[.agg #[.string (I q1.num), .string (dn q1)], .agg #[.string (I qy.num), .string (dn qy)]] W fun e w' => e = .returned (.agg #[.string (I qg.num), .string (dn qg)]) ∧ Below W.heap.size W w') := fun W hW => by
   have h := fAddQ B1 BY (by omega) (by omega) W hW
   rw [hqg] at h
   exact h
  have HMG : Hid (∀ W, Tabs W → Calls Tryz.prog 23 #[.agg #[.string (I qp.num), .string (dn qp)], .agg #[.string (I qg.num), .string (dn qg)]] W fun e w' => e = .returned (.agg #[.string (I qs.num), .string (dn qs)]) ∧ Below W.heap.size W w') := fun W hW => by
   have h := fMulQ BP BG (by omega) (by omega) W hW
   rw [hqs] at h
   exact h
  have HAQ : Hid (∀ W, Tabs W → Calls Tryz.prog 28 #[.agg #[.string (I qq.num), .string (dn qq)], .agg #[.string (I qm'.num), .string (dn qm')]] W fun e w' => e = .returned (.agg #[.string (I qs.num), .string (dn qs)]) ∧ Below W.heap.size W w') := fun W hW => by
   have h := fAddQ BQ BM (by omega) (by omega) W hW
   rw [e1] at h
   exact h
  obtain ⟨qr, hqr⟩ : ∃ q : Rat, q0 / qf = q := ⟨_, rfl⟩
  have hfp := hbd.face_pos
  rw [hqf] at hfp
  have BR : BdQ qr 39 := by
   obtain ⟨⟨ax, ay⟩, ha⟩ : ∃ p, (perL i)[0]? = some p := ⟨_, List.getElem?_eq_getElem (by rw [hN]; exact hN0)⟩
   have hao := hbd.per (List.mem_of_getElem? ha)
   simp only at hao
   have h1 := coupQ_eq ha
   rw [hq0] at h1
   have h2 : qr = fv i.cn i.cd * dcF i.count ax ay := by
    rw [← hqr, h1]
    unfold intQ
    rw [hqf, Rat.div_def]
    have h3 := Rat.mul_inv_cancel qf (by grind)
    have h4 : qf * fv i.cn i.cd * dcF i.count ax ay * qf⁻¹ = fv i.cn i.cd * dcF i.count ax ay * (qf * qf⁻¹) := by grind
    rw [h4, h3, Rat.mul_one]
   rw [h2]
   exact BdQ.mul (a := 20) (b := 19) (fv_bd _ _ hbd.c1 (by have := hbd.c2; omega)) (dcF_bd hao.1 hao.2)
  have hc0 : 0 ≤ q0 := hq0 ▸ coupQ_nn hbd (by rw [hN]; exact hN0)
  have hrp : 0 < 1 + qr := by have h := div_nonneg' hc0 hfp; rw [hqr] at h; grind
  have HQU : Hid (∀ W, Tabs W → Calls Tryz.prog 29 #[.agg #[.string (I q0.num), .string (dn q0)], .agg #[.string i.fn, .string i.fd]] W fun e w' => e = .returned (.tuple #[.agg #[.string (I qr.num), .string (dn qr)], .int .i64 0]) ∧ Below W.heap.size W w') := fun W hW => by
   have h := fQuoQ B0 BF (by omega) (by omega) (by grind) W hW
   rw [hqr] at h
   unfold fenc at h
   rw [← hf.1, ← hf.2] at h
   exact h
  have HPR : Hid ((∀ j, j < N → coupQ i j = q0) → ∀ W, Tabs W → Calls Tryz.prog 15 #[.agg #[.string i.id, .int .i64 i.kind, .string i.cur, .int .i64 i.places, .int .i64 i.issued, .int .i64 i.matures, .string i.fn, .string i.fd, .string i.cn, .string i.cd, .int .i64 i.months, .int .i64 i.count, .string i.other, .string i.sn, .string i.sd], .int .i64 px, .agg #[.string (I qr.num), .string (dn qr)]] W fun e w' => e = .returned (.tuple #[.agg #[.string i.fn, .string i.fd], .int .i64 0]) ∧ Below W.heap.size W w') := fun hall W hW => by
   have h := bPres_few hbd hfew hi0 hi1 (I qr.num) (dn qr) (Nat.le_trans BR.num (by omega)) (Nat.le_trans BR.dn (by omega)) (by unfold CanQ; rw [fv_enc]; exact ⟨rfl, rfl⟩) (by rw [fv_enc]; exact hrp) W hW
   have h2 := pres_par hbd hp (c := q0) (fun j hj => hall j (by rw [← hN]; exact hj))
   simp only at h2
   rw [hqf, hqr] at h2
   rw [fv_enc, if_neg (by omega), h2] at h
   unfold fenc at h
   rw [← hf.1, ← hf.2] at h
   exact h
  have HAW : Hid (∀ W, Tabs W → Calls Tryz.prog 12 #[] W fun e w' => e = .returned (.bool true) ∧ Below W.heap.size W w') := fun W hW => by
   exact awake11_any W hW
  have HFN : Hid (i.fn = I qf.num ∧ i.fd = dn qf) := hf
  have HAM := hI hqam
  have HQ0 := hI hq0
  have HG2 : Hid (BX w [(w.heap.size + 1, fobj qy), (w.heap.size, Obj.cells i.cells 27 (0, 0))] wc) := ⟨HG1.out.1, fun x hx => by
   rcases List.mem_cons.1 hx with rfl | hx
   ·have h := HG1.out.get 0 rfl
    rw [hy.1, hy.2] at h
    exact h
   ·rcases List.mem_cons.1 hx with rfl | hx
    ·exact HG1.out.get 1 rfl
    ·cases hx⟩
  have HPK := hI hp
  clear htiny hbd hcut hsy hfew hN hlt hi0 hi1 hi2 hi3 hqf hqy hq1 hqc hq0 hqam hyp hqg hqg2 hqp hqq hqs e1 hf hy BF BY B1 BC B0 BM BG BP BQ hqr hfp BR hc0 hrp hcy HG1 hp HTI
  have c0 := Lib.cell_of_heap (HG2.out.get 1 rfl) 0
  have c1 := Lib.cell_of_heap (HG2.out.get 1 rfl) 1
  have c2 := Lib.cell_of_heap (HG2.out.get 1 rfl) 2
  have c3 := Lib.cell_of_heap (HG2.out.get 1 rfl) 3
  have c4 := Lib.cell_of_heap (HG2.out.get 1 rfl) 4
  have c5 := Lib.cell_of_heap (HG2.out.get 1 rfl) 5
  have c6 := Lib.cell_of_heap (HG2.out.get 1 rfl) 6
  have c7 := Lib.cell_of_heap (HG2.out.get 1 rfl) 7
  have c8 := Lib.cell_of_heap (HG2.out.get 1 rfl) 8
  have c9 := Lib.cell_of_heap (HG2.out.get 1 rfl) 9
  have c10 := Lib.cell_of_heap (HG2.out.get 1 rfl) 10
  have c11 := Lib.cell_of_heap (HG2.out.get 1 rfl) 11
  have c12 := Lib.cell_of_heap (HG2.out.get 1 rfl) 12
  have c13 := Lib.cell_of_heap (HG2.out.get 1 rfl) 13
  have c14 := Lib.cell_of_heap (HG2.out.get 1 rfl) 14
  simp [Inst.cells] at c0 c1 c2 c3 c4 c5 c6 c7 c8 c9 c10 c11 c12 c13 c14
  go_wp2_with fail
  refine (HPER.out _ (HT.out.below HG2.out.1)).mono ?_
  rintro e w2 ⟨⟨ad, cap, cur, rfl, hnc, hab, hob, hrd⟩, x2⟩
  have HG3 : Hid (BX w [(ad.block, Obj.cells cur 50 (0, 0)), (w.heap.size + 1, fobj qy), (w.heap.size, Obj.cells i.cells 27 (0, 0))] w2) := ⟨(HG2.out.below x2).1, fun x hx => by
   rcases List.mem_cons.1 hx with rfl | hx
   ·exact hob
   ·exact (HG2.out.below x2).2 x hx⟩
  have HRR : Hid (∀ W : World, W.heap[ad.block]? = some (.cells cur 50 (0, 0)) → W.cell? (ad.add (k * 2)) = some (.int .i64 px) ∧ W.cell? ⟨(ad.add (k * 2)).block, (ad.add (k * 2)).off + 1, none⟩ = some (.int .i64 py)) := fun W hW => (hrd W hW).2 k (px, py) HPK.out
  have tN : ((N : Int) == 0) = false := beq_eq_false_iff_ne.2 (by omega)
  have tN' : (N == 0) = false := beq_eq_false_iff_ne.2 (by omega)
  have hki : (k : Int) < (N : Int) := by omega
  have HKI := hI hki
  clear x2 hnc hab hob hrd HG2 HPER c0 c1 c2 c3 c4 c5 c6 c7 c8 c9 c10 c11 c12 c13 c14
  have c0 := Lib.cell_of_heap (HG3.out.get 2 rfl) 0
  have c1 := Lib.cell_of_heap (HG3.out.get 2 rfl) 1
  have c2 := Lib.cell_of_heap (HG3.out.get 2 rfl) 2
  have c3 := Lib.cell_of_heap (HG3.out.get 2 rfl) 3
  have c4 := Lib.cell_of_heap (HG3.out.get 2 rfl) 4
  have c5 := Lib.cell_of_heap (HG3.out.get 2 rfl) 5
  have c6 := Lib.cell_of_heap (HG3.out.get 2 rfl) 6
  have c7 := Lib.cell_of_heap (HG3.out.get 2 rfl) 7
  have c8 := Lib.cell_of_heap (HG3.out.get 2 rfl) 8
  have c9 := Lib.cell_of_heap (HG3.out.get 2 rfl) 9
  have c10 := Lib.cell_of_heap (HG3.out.get 2 rfl) 10
  have c11 := Lib.cell_of_heap (HG3.out.get 2 rfl) 11
  have c12 := Lib.cell_of_heap (HG3.out.get 2 rfl) 12
  have c13 := Lib.cell_of_heap (HG3.out.get 2 rfl) 13
  have c14 := Lib.cell_of_heap (HG3.out.get 2 rfl) 14
  simp [Inst.cells] at c0 c1 c2 c3 c4 c5 c6 c7 c8 c9 c10 c11 c12 c13 c14
  go_wp2_with fail
  refine (HCP.out _ (HT.out.below HG3.out.1)).mono ?_
  rintro e w3 ⟨rfl, x3⟩
  have HG4 := hI (HG3.out.below x3)
  clear x3 HG3 HCP tN tN' c0 c1 c2 c3 c4 c5 c6 c7 c8 c9 c10 c11 c12 c13 c14
  obtain ⟨W3, hW3⟩ : ∃ W, w3.alloc (.cells #[.string (I qc.num), .string (dn qc)] 25) = W := ⟨_, rfl⟩
  have HG5 : Hid (BX w ((w3.heap.size, fobj qc) :: [(ad.block, Obj.cells cur 50 (0, 0)), (w.heap.size + 1, fobj qy), (w.heap.size, Obj.cells i.cells 27 (0, 0))]) W3) := by show BX _ _ _; rw [← hW3]; exact HG4.out.push _
  have HLT : Hid (∀ x, x ∈ [(ad.block, Obj.cells cur 50 (0, 0)), (w.heap.size + 1, fobj qy), (w.heap.size, Obj.cells i.cells 27 (0, 0))] → x.1 ≠ w3.heap.size) := fun x hx => by have := (Array.getElem?_eq_some_iff.1 (HG4.out.2 x hx)).1; omega
  have HW3 : Hid (w.heap.size ≤ w3.heap.size) := HG4.out.1.size
  have hwn : IntKind.i64.wrap ((N : Int) - 1) = (N : Int) - 1 := by rw [IntKind.wrap_i64]; omega
  clear HG4
  obtain ⟨lb, hlb⟩ : ∃ b, ((k : Int) == (N : Int) - 1) = b := ⟨_, rfl⟩
  go_upto_if 73 with fail
  generalize w3.heap.size = n10 at HG5 HLT HW3 ⊢
  go_cut [6] (fun v6 wx => v6 = .bool false ∧ BX w ((n10, fobj qm') :: [(ad.block, Obj.cells cur 50 (0, 0)), (w.heap.size + 1, fobj qy), (w.heap.size, Obj.cells i.cells 27 (0, 0))]) wx)
  case first =>
   as_aux_lemma =>
   cases lb
   case true =>
    have hk1 : k + 1 = N := by have := beq_iff_eq.1 hlb; omega
    have hm : qc + qf = qm' := by have h := HAM.out; rw [if_pos hk1] at h; exact h
    have HAF2 := HAF.out
    rw [hm] at HAF2
    have HAF3 := hI HAF2
    clear HAF2
    have m0 := Lib.cell_of_heap (HG5.out.get 0 rfl) 0
    have m1 := Lib.cell_of_heap (HG5.out.get 0 rfl) 1
    simp at m0 m1
    have c6 := Lib.cell_of_heap (HG5.out.get 3 rfl) 6
    have c7 := Lib.cell_of_heap (HG5.out.get 3 rfl) 7
    simp [Inst.cells] at c6 c7
    first | rw [hlb] | skip
    go_wp2_with fail
    refine (HAF3.out _ (HT.out.below HG5.out.1)).mono ?_
    rintro e w6 ⟨rfl, x6⟩
    have HG6 := hI (HG5.out.below x6)
    clear x6 m0 m1 c6 c7
    have m0 := Lib.cell_of_heap (HG6.out.get 0 rfl) 0
    have m1 := Lib.cell_of_heap (HG6.out.get 0 rfl) 1
    simp at m0 m1
    have f0 := Lib.frozen_of_heap (HG6.out.get 0 rfl) 0
    have f1 := Lib.frozen_of_heap (HG6.out.get 0 rfl) 1
    go_wp2_with fail
    go_meet
    refine ⟨rfl, set2_below HW3.out HG6.out.1 _ _, fun x hx => ?_⟩
    rcases List.mem_cons.1 hx with rfl | hx
    ·exact Go.Proofs.YteennkgpeiafaaaGreatDoor.set2 (HG6.out.get 0 rfl) _ _
    ·exact (set2_far (HLT.out x hx) _ _).trans (HG6.out.2 x (List.mem_cons_of_mem _ hx))
   case false =>
    have hk1 : k + 1 ≠ N := by have := beq_eq_false_iff_ne.1 hlb; omega
    have hm : qc = qm' := by have h := HAM.out; rw [if_neg hk1, Rat.add_zero] at h; exact h
    have HM := hI hm
    clear hm
    first | rw [hlb] | skip
    go_wp2_with fail
    go_meet
    refine ⟨rfl, ?_⟩
    rw [← HM.out]
    exact HG5.out
  case rest =>
   obtain ⟨rfl, hg7⟩ := hcut
   have HG7 := hI hg7
   clear hg7 HG5 HLT HW3 HAF hW3 hwn hlb HAM
   have hg : BX w ((n10, fobj qm') :: [(ad.block, Obj.cells cur 50 (0, 0)), (w.heap.size + 1, fobj qy), (w.heap.size, Obj.cells i.cells 27 (0, 0))]) wc.drew := ⟨HG7.out.1.drew, HG7.out.2⟩
   go_wp2_with fail
   have mixed : Tryz.prog.follows .mixedOrders = true := by kernel_rfl
   refine wp_region_any mixed (wpAny_inv (TBJ w i ad cur N cap k n10 px py qy qm' qp _ _ _ _ _ _ _ _ _ _ _ _ _ _ _ _ _ _ _ _ _ _ _ _ _ _ _ _ _ _ _ _ _ _ _ _ _ _ _ _ _ _ _ _ _ _ _ _ _ _ _ _ _ _ _ _ _ _ _ _ _ _ _ _ _ _ _ _ _ _ _ _ _ _ _ _ _ _ _ _ _ _ _ _ _ _ _ _ _ _ _ _ _ _ _ _ _ _ _ _ _ _ _ _ _ _ _ _ _ _ _ _ _ _ _ _ _ _ _ _ _ _ _ _ _ _ _ _ _ _ _ _ _ _ _ _ _ _ _ _ _ _ _ _ _ _ _ _ _ _ _ _ _ _ _ _ _ _ _ _ _ _ _ _ _ _ _ _ _ _ _ _ _ _ _) ?stTB ?dnTB _ _ _ _ ⟨by simp, ⟨0, _, _, _, _, _, _, _, _, _, _, _, _, _, rfl, fun h => by simp at h, fun h => by simp at h, fun h => by simp at h, fun h => by simp at h, fun h => by simp at h, fun h => by simp at h, fun h => by simp at h, fun h => by simp at h, fun h => by simp at h, fun h => by simp at h, fun h => by simp at h, fun h => by simp at h, fun h => by simp at h, hg, fun h => by simp at h, fun h => by simp at h, fun h => by simp at h, fun h => by simp at h⟩⟩ (by decide))
   case dnTB =>
    as_aux_lemma =>
    intro L a w' hj hr
    have all := all_on hr hj.sz (by kernel_rfl)
    obtain ⟨mm, s12, s13, s78, s79, s80, s81, s82, s83, s84, s85, s86, s87, s88, rfl, hv⟩ := hj.fr
    have HFTB := hI (And.intro (hv.n12 (all 12 (by omega))) (And.intro hv.bx (hv.b12 (all 11 (by omega)))))
    have es := hv.k11 (all 11 (by omega)); have ee := hv.k13 (all 13 (by omega))
    clear all hv hj hr
    subst es ee
    obtain ⟨n12, hmm⟩ : ∃ x, mm = x := ⟨_, rfl⟩
    rw [hmm] at HFTB ⊢
    clear hmm
    have HXTB : Hid (BX w ((n12, fobj qp) :: ((n10, fobj qm') :: [(ad.block, Obj.cells cur 50 (0, 0)), (w.heap.size + 1, fobj qy), (w.heap.size, Obj.cells i.cells 27 (0, 0))])) w') := ⟨HFTB.out.2.1.1, fun x hx => by
     rcases List.mem_cons.1 hx with rfl | hx
     ·exact HFTB.out.1
     ·exact HFTB.out.2.1.2 x hx⟩
    have hg : BX w ((n12, fobj qp) :: ((n10, fobj qm') :: [(ad.block, Obj.cells cur 50 (0, 0)), (w.heap.size + 1, fobj qy), (w.heap.size, Obj.cells i.cells 27 (0, 0))])) w'.drew := ⟨HXTB.out.1.drew, HXTB.out.2⟩
    clear HFTB
    go_wp2_with fail
    have mixed : Tryz.prog.follows .mixedOrders = true := by kernel_rfl
    refine wp_region_any mixed (wpAny_inv (TCJ w i ad cur N cap k n10 n12 px py qy qm' qp qq _ _ _ _ _ _ _ _ _ _ _ _ _ _ _ _ _ _ _ _ _ _ _ _ _ _ _ _ _ _ _ _ _ _ _ _ _ _ _ _ _ _ _ _ _ _ _ _ _ _ _ _ _ _ _ _ _ _ _ _ _ _ _ _ _ _ _ _ _ _ _ _ _ _ _ _ _ _ _ _ _ _ _ _ _ _ _ _ _ _ _ _ _ _ _ _ _ _ _ _ _ _ _ _ _ _ _ _ _ _ _ _ _ _ _ _ _ _ _ _ _ _ _ _ _ _ _ _ _ _ _ _ _ _ _ _ _ _ _ _ _ _ _ _ _ _ _ _ _ _ _ _ _ _ _ _ _ _ _ _ _ _ _ _ _ _ _ _ _ _ _ _ _) ?stTC ?dnTC _ _ _ _ ⟨by simp, ⟨0, _, _, _, _, _, _, _, _, _, _, _, _, _, rfl, fun h => by simp at h, fun h => by simp at h, fun h => by simp at h, fun h => by simp at h, fun h => by simp at h, fun h => by simp at h, fun h => by simp at h, fun h => by simp at h, fun h => by simp at h, fun h => by simp at h, fun h => by simp at h, fun h => by simp at h, fun h => by simp at h, hg, fun h => by simp at h, fun h => by simp at h, fun h => by simp at h, fun h => by simp at h⟩⟩ (by decide))
    case dnTC =>
     as_aux_lemma =>
     intro L a w' hj hr
     have all := all_on hr hj.sz (by kernel_rfl)
     obtain ⟨mm, s14, s15, s89, s90, s91, s92, s93, s94, s95, s96, s97, s98, s99, rfl, hv⟩ := hj.fr
     have HFTC := hI (And.intro (hv.n12 (all 12 (by omega))) (And.intro hv.bx (hv.b12 (all 11 (by omega)))))
     have es := hv.k11 (all 11 (by omega)); have ee := hv.k13 (all 13 (by omega))
     clear all hv hj hr
     subst es ee
     obtain ⟨n14, hmm⟩ : ∃ x, mm = x := ⟨_, rfl⟩
     rw [hmm] at HFTC ⊢
     clear hmm
     have HXTC : Hid (BX w ((n14, fobj qq) :: ((n12, fobj qp) :: ((n10, fobj qm') :: [(ad.block, Obj.cells cur 50 (0, 0)), (w.heap.size + 1, fobj qy), (w.heap.size, Obj.cells i.cells 27 (0, 0))]))) w') := ⟨HFTC.out.2.1.1, fun x hx => by
      rcases List.mem_cons.1 hx with rfl | hx
      ·exact HFTC.out.1
      ·exact HFTC.out.2.1.2 x hx⟩
     have hg : BX w ((n14, fobj qq) :: ((n12, fobj qp) :: ((n10, fobj qm') :: [(ad.block, Obj.cells cur 50 (0, 0)), (w.heap.size + 1, fobj qy), (w.heap.size, Obj.cells i.cells 27 (0, 0))]))) w'.drew := ⟨HXTC.out.1.drew, HXTC.out.2⟩
     clear HFTC
     go_wp2_with fail
     have mixed : Tryz.prog.follows .mixedOrders = true := by kernel_rfl
     refine wp_region_any mixed (wpAny_inv (TDJ w i ad cur n10 n12 n14 qy qm' qp qq q1 qg _ _ _ _ _ _ _ _ _ _ _ _ _ _ _ _ _ _ _ _ _ _ _ _ _ _ _ _ _ _ _ _ _ _ _ _ _ _ _ _ _ _ _ _ _ _ _ _ _ _ _ _ _ _ _ _ _ _ _ _ _ _ _ _ _ _ _ _ _ _ _ _ _ _ _ _ _ _ _ _ _ _ _ _ _ _ _ _ _ _ _ _ _ _ _ _ _ _ _ _ _ _ _ _ _ _ _ _ _ _ _ _ _ _ _ _ _ _ _ _ _ _ _ _ _ _ _ _ _ _ _ _ _ _ _ _ _ _ _ _ _ _ _ _ _ _ _ _ _ _ _ _ _ _ _ _ _ _ _ _ _ _ _ _ _ _ _ _ _ _ _ _ _ _ _ _ _ _ _ _ _ _ _ _ _ _ _) ?stTD ?dnTD _ _ _ _ ⟨by simp, ⟨0, _, _, _, _, rfl, fun h => by simp at h, fun h => by simp at h, fun h => by simp at h, fun h => by simp at h, hg, fun h => by simp at h, fun h => by simp at h, fun h => by simp at h, fun h => by simp at h⟩⟩ (by decide))
     case dnTD =>
      as_aux_lemma =>
      intro L a w' hj hr
      have all := all_on hr hj.sz (by kernel_rfl)
      obtain ⟨mm, s16, s100, s101, s102, rfl, hv⟩ := hj.fr
      have HFTD := hI (And.intro (hv.n4 (all 4 (by omega))) (And.intro hv.bx (hv.b4 (all 3 (by omega)))))
      have es := hv.k3 (all 3 (by omega))
      clear all hv hj hr
      subst es
      obtain ⟨n16, hmm⟩ : ∃ x, mm = x := ⟨_, rfl⟩
      rw [hmm] at HFTD ⊢
      clear hmm
      have HXTD : Hid (BX w ((n16, fobj qg) :: ((n14, fobj qq) :: ((n12, fobj qp) :: ((n10, fobj qm') :: [(ad.block, Obj.cells cur 50 (0, 0)), (w.heap.size + 1, fobj qy), (w.heap.size, Obj.cells i.cells 27 (0, 0))])))) w') := ⟨HFTD.out.2.1.1, fun x hx => by
       rcases List.mem_cons.1 hx with rfl | hx
       ·exact HFTD.out.1
       ·exact HFTD.out.2.1.2 x hx⟩
      have hg : BX w ((n16, fobj qg) :: ((n14, fobj qq) :: ((n12, fobj qp) :: ((n10, fobj qm') :: [(ad.block, Obj.cells cur 50 (0, 0)), (w.heap.size + 1, fobj qy), (w.heap.size, Obj.cells i.cells 27 (0, 0))])))) w'.drew := ⟨HXTD.out.1.drew, HXTD.out.2⟩
      clear HFTD
      go_wp2_with fail
      have mixed : Tryz.prog.follows .mixedOrders = true := by kernel_rfl
      refine wp_region_any mixed (wpAny_inv (TEJ w i ad cur n10 n12 n14 n16 qy qm' qp qq qg qs _ _ _ _ _ _ _ _ _ _ _ _ _ _ _ _ _ _ _ _ _ _ _ _ _ _ _ _ _ _ _ _ _ _ _ _ _ _ _ _ _ _ _ _ _ _ _ _ _ _ _ _ _ _ _ _ _ _ _ _ _ _ _ _ _ _ _ _ _ _ _ _ _ _ _ _ _ _ _ _ _ _ _ _ _ _ _ _ _ _ _ _ _ _ _ _ _ _ _ _ _ _ _ _ _ _ _ _ _ _ _ _ _ _ _ _ _ _ _ _ _ _ _ _ _ _ _ _ _ _ _ _ _ _ _ _ _ _ _ _ _ _ _ _ _ _ _ _ _ _ _ _ _ _ _ _ _ _ _ _ _ _ _ _ _ _) ?stTE ?dnTE _ _ _ _ ⟨by simp, ⟨_, _, _, _, _, _, _, _, _, _, _, _, _, _, _, _, _, _, _, rfl, fun h => by simp at h, fun h => by simp at h, fun h => by simp at h, fun h => by simp at h, fun h => by simp at h, fun h => by simp at h, fun h => by simp at h, fun h => by simp at h, fun h => by simp at h, fun h => by simp at h, fun h => by simp at h, fun h => by simp at h, fun h => by simp at h, fun h => by simp at h, fun h => by simp at h, fun h => by simp at h, fun h => by simp at h, fun h => by simp at h, fun h => by simp at h, hg⟩⟩ (by decide))
      case dnTE =>
       as_aux_lemma =>
       intro L a w' hj hr
       have all := all_on hr hj.sz (by kernel_rfl)
       obtain ⟨s103, s104, s105, s106, s107, s108, s109, s110, s111, s112, s113, s114, s115, s116, s117, s118, s119, s120, s121, rfl, hv⟩ := hj.fr
       have HFTE := hI hv.bx
       have es := hv.k18 (all 18 (by omega))
       clear all hv hj hr
       subst es
       have HXE : Hid (BX w ((n16, fobj qg) :: ((n14, fobj qq) :: ((n12, fobj qp) :: ((n10, fobj qm') :: [(ad.block, Obj.cells cur 50 (0, 0)), (w.heap.size + 1, fobj qy), (w.heap.size, Obj.cells i.cells 27 (0, 0))])))) w') := HFTE.out
       have c0 := Lib.cell_of_heap (HXE.out.get 6 rfl) 0
       have c1 := Lib.cell_of_heap (HXE.out.get 6 rfl) 1
       have c2 := Lib.cell_of_heap (HXE.out.get 6 rfl) 2
       have c3 := Lib.cell_of_heap (HXE.out.get 6 rfl) 3
       have c4 := Lib.cell_of_heap (HXE.out.get 6 rfl) 4
       have c5 := Lib.cell_of_heap (HXE.out.get 6 rfl) 5
       have c6 := Lib.cell_of_heap (HXE.out.get 6 rfl) 6
       have c7 := Lib.cell_of_heap (HXE.out.get 6 rfl) 7
       have c8 := Lib.cell_of_heap (HXE.out.get 6 rfl) 8
       have c9 := Lib.cell_of_heap (HXE.out.get 6 rfl) 9
       have c10 := Lib.cell_of_heap (HXE.out.get 6 rfl) 10
       have c11 := Lib.cell_of_heap (HXE.out.get 6 rfl) 11
       have c12 := Lib.cell_of_heap (HXE.out.get 6 rfl) 12
       have c13 := Lib.cell_of_heap (HXE.out.get 6 rfl) 13
       have c14 := Lib.cell_of_heap (HXE.out.get 6 rfl) 14
       simp [Inst.cells] at c0 c1 c2 c3 c4 c5 c6 c7 c8 c9 c10 c11 c12 c13 c14
       clear HFTE HXTD HPX HPY HR1 HAG HMG HAQ
       go_wp2_with fail
       refine (HC0.out _ (HT.out.below HXE.out.1)).mono ?_
       rintro e wf ⟨rfl, xf⟩
       have HXF := hI (HXE.out.below xf)
       clear xf HXE HC0 c0 c1 c2 c3 c4 c5 c6 c7 c8 c9 c10 c11 c12 c13 c14
       obtain ⟨Wf, hWf⟩ : ∃ W, wf.alloc (.cells #[.string (I q0.num), .string (dn q0)] 25) = W := ⟨_, rfl⟩
       have HXG : Hid (BX w ((wf.heap.size, fobj q0) :: ((n16, fobj qg) :: ((n14, fobj qq) :: ((n12, fobj qp) :: ((n10, fobj qm') :: [(ad.block, Obj.cells cur 50 (0, 0)), (w.heap.size + 1, fobj qy), (w.heap.size, Obj.cells i.cells 27 (0, 0))]))))) Wf) := by show BX _ _ _; rw [← hWf]; exact HXF.out.push _
       clear HXF
       go_wp2_with fail
       generalize wf.heap.size = n17 at HXG ⊢
       clear hWf
       go_loopw [19, 20, 21, 129] (fun _ _ _ v wr => ∃ j : Nat, v = .int .i64 (j : Int) ∧ j ≤ N ∧ (∀ r, r < j → coupQ i r = q0) ∧ BX w ((n17, fobj q0) :: ((n16, fobj qg) :: ((n14, fobj qq) :: ((n12, fobj qp) :: ((n10, fobj qm') :: [(ad.block, Obj.cells cur 50 (0, 0)), (w.heap.size + 1, fobj qy), (w.heap.size, Obj.cells i.cells 27 (0, 0))]))))) wr) (fun _ _ _ v _ => N - (intOf v).toNat)
       case atStart => exact ⟨0, rfl, by omega, fun r hr => by omega, HXG.out⟩
       case round =>
        as_aux_lemma =>
        obtain ⟨j, rfl, hj, hall, hbx⟩ := hrel
        have HB := hI hbx
        have HALL := hI hall
        clear hbx hall HXG
        rcases Nat.lt_or_ge j N with hlt | hge
        ·have hcj := HCJ.out j hlt
         obtain ⟨qj, hqj⟩ : ∃ q, coupQ i j = q := ⟨_, rfl⟩
         rw [hqj] at hcj
         have HCJ1 := hI hcj
         have HQJ := hI hqj
         have hcx : decide ((j : Int) < (N : Int)) = true := by simp; omega
         clear hcj hqj
         have c0 := Lib.cell_of_heap (HB.out.get 7 rfl) 0
         have c1 := Lib.cell_of_heap (HB.out.get 7 rfl) 1
         have c2 := Lib.cell_of_heap (HB.out.get 7 rfl) 2
         have c3 := Lib.cell_of_heap (HB.out.get 7 rfl) 3
         have c4 := Lib.cell_of_heap (HB.out.get 7 rfl) 4
         have c5 := Lib.cell_of_heap (HB.out.get 7 rfl) 5
         have c6 := Lib.cell_of_heap (HB.out.get 7 rfl) 6
         have c7 := Lib.cell_of_heap (HB.out.get 7 rfl) 7
         have c8 := Lib.cell_of_heap (HB.out.get 7 rfl) 8
         have c9 := Lib.cell_of_heap (HB.out.get 7 rfl) 9
         have c10 := Lib.cell_of_heap (HB.out.get 7 rfl) 10
         have c11 := Lib.cell_of_heap (HB.out.get 7 rfl) 11
         have c12 := Lib.cell_of_heap (HB.out.get 7 rfl) 12
         have c13 := Lib.cell_of_heap (HB.out.get 7 rfl) 13
         have c14 := Lib.cell_of_heap (HB.out.get 7 rfl) 14
         simp [Inst.cells] at c0 c1 c2 c3 c4 c5 c6 c7 c8 c9 c10 c11 c12 c13 c14
         go_wp2_with fail
         refine (HCJ1.out _ (HT.out.below HB.out.1)).mono ?_
         rintro e wh ⟨rfl, xh⟩
         have HB2 := hI (HB.out.below xh)
         clear xh HB HCJ1 c0 c1 c2 c3 c4 c5 c6 c7 c8 c9 c10 c11 c12 c13 c14
         obtain ⟨Wh, hWh⟩ : ∃ W, wh.alloc (.cells #[.string (I qj.num), .string (dn qj)] 25) = W := ⟨_, rfl⟩
         have HB3 : Hid (BX w ((wh.heap.size, fobj qj) :: ((n17, fobj q0) :: ((n16, fobj qg) :: ((n14, fobj qq) :: ((n12, fobj qp) :: ((n10, fobj qm') :: [(ad.block, Obj.cells cur 50 (0, 0)), (w.heap.size + 1, fobj qy), (w.heap.size, Obj.cells i.cells 27 (0, 0))])))))) Wh) := by show BX _ _ _; rw [← hWh]; exact HB2.out.push _
         have m0 := Lib.cell_of_heap (HB3.out.get 0 rfl) 0
         have m1 := Lib.cell_of_heap (HB3.out.get 0 rfl) 1
         simp at m0 m1
         have u0 := Lib.cell_of_heap (HB3.out.get 1 rfl) 0
         have u1 := Lib.cell_of_heap (HB3.out.get 1 rfl) 1
         simp at u0 u1
         have hne := run_neq_frac (I qj.num) (dn qj) (I q0.num) (dn q0)
         rw [fenc_dec] at hne
         clear HB2
         by_cases hjq : qj = q0
         ·rw [decide_eq_true hjq] at hne
          have HJQ := hI hjq
          clear hjq
          go_wp2_with fail
          go_roundw
          case rel =>
           refine ⟨j + 1, by go_num, by omega, fun r hr => ?_, HB3.out.1, fun x hx => HB3.out.2 x (List.mem_cons_of_mem _ hx)⟩
           rcases Nat.lt_or_ge r j with h | h
           ·exact HALL.out r h
           ·obtain rfl : r = j := by omega
            rw [HQJ.out, HJQ.out]
          case measure => simp [intOf]; omega
         ·rw [decide_eq_false hjq] at hne
          clear hjq
          go_wp2_with fail
          refine (awake11_any _ (HT.out.below HB3.out.1)).mono ?_
          rintro e wz ⟨rfl, xz⟩
          have HBZ := hI (HB3.out.below xz).1
          clear xz
          go_wp2_with fail
          go_ret
          exact ⟨rfl, HBZ.out⟩
        ·have hjN : j = N := by omega
         have hcx : decide ((j : Int) < (N : Int)) = false := by simp; omega
         have hcx2 : decide (j < N) = false := decide_eq_false (by omega)
         have HPR1 := hI (HPR.out (fun r hr => HALL.out r (by omega)))
         have u0 := Lib.cell_of_heap (HB.out.get 0 rfl) 0
         have u1 := Lib.cell_of_heap (HB.out.get 0 rfl) 1
         simp at u0 u1
         have c6 := Lib.cell_of_heap (HB.out.get 7 rfl) 6
         have c7 := Lib.cell_of_heap (HB.out.get 7 rfl) 7
         simp [Inst.cells] at c6 c7
         go_wp2_with fail
         refine (HQU.out _ (HT.out.below HB.out.1)).mono ?_
         rintro e wk ⟨rfl, xk⟩
         have HB4 := hI (HB.out.below xk)
         clear xk HB HQU u0 u1 c6 c7 hcx hcx2
         obtain ⟨Wk, hWk⟩ : ∃ W, wk.alloc (.cells #[.string (I qr.num), .string (dn qr)] 25) = W := ⟨_, rfl⟩
         have HB5 : Hid (BX w ((wk.heap.size, fobj qr) :: ((n17, fobj q0) :: ((n16, fobj qg) :: ((n14, fobj qq) :: ((n12, fobj qp) :: ((n10, fobj qm') :: [(ad.block, Obj.cells cur 50 (0, 0)), (w.heap.size + 1, fobj qy), (w.heap.size, Obj.cells i.cells 27 (0, 0))])))))) Wk) := by show BX _ _ _; rw [← hWk]; exact HB4.out.push _
         obtain ⟨n22, hn22⟩ : ∃ x, wk.heap.size = x := ⟨_, rfl⟩
         rw [hn22] at HB5
         have hg : BX w [(n22, fobj qr), (ad.block, Obj.cells cur 50 (0, 0)), (w.heap.size + 1, fobj qy), (w.heap.size, Obj.cells i.cells 27 (0, 0))] Wk.drew := ⟨HB5.out.1.drew, fun x hx => by
          rcases List.mem_cons.1 hx with rfl | hx
          ·exact HB5.out.get 0 rfl
          ·rcases List.mem_cons.1 hx with rfl | hx
           ·exact HB5.out.get 6 rfl
           ·rcases List.mem_cons.1 hx with rfl | hx
            ·exact HB5.out.get 7 rfl
            ·rcases List.mem_cons.1 hx with rfl | hx
             ·exact HB5.out.get 8 rfl
             ·cases hx⟩
         clear HB4 HB5
         go_wp2_with fail
         try simp only [hn22]
         clear hWk hn22
         have mixed : Tryz.prog.follows .mixedOrders = true := by kernel_rfl
         refine wp_region_any mixed (wpAny_inv (TFJ w i ad cur N cap k n22 px py qy qr qf _ _ _ _ _ _ _ _ _ _ _ _ _ _ _ _ _ _ _ _ _ _ _ _ _ _ _ _ _ _ _ _ _ _ _ _ _ _ _ _ _ _ _ _ _ _ _ _ _ _ _ _ _ _ _ _ _ _ _ _ _ _ _ _ _ _ _ _ _ _ _ _ _ _ _ _ _ _ _ _ _ _ _ _ _ _ _ _ _ _ _ _ _ _ _ _ _ _ _ _ _ _ _ _ _ _ _ _ _ _ _ _ _ _ _ _ _ _ _ _ _ _ _ _ _ _ _ _ _ _ _ _ _ _ _ _ _ _ _ _ _ _ _ _ _ _ _ _ _ _ _ _ _ _ _ _ _ _ _ _ _ _ _ _ _ _ _ _ _ _ _ _ _ _ _) ?stTF ?dnTF _ _ _ _ ⟨by simp, ⟨0, _, _, _, _, _, _, _, _, _, _, _, _, _, rfl, fun h => by simp at h, fun h => by simp at h, fun h => by simp at h, fun h => by simp at h, fun h => by simp at h, fun h => by simp at h, fun h => by simp at h, fun h => by simp at h, fun h => by simp at h, fun h => by simp at h, fun h => by simp at h, fun h => by simp at h, fun h => by simp at h, hg, fun h => by simp at h, fun h => by simp at h, fun h => by simp at h, fun h => by simp at h⟩⟩ (by decide))
         case dnTF =>
          as_aux_lemma =>
          intro L a w' hj hr
          have all := all_on hr hj.sz (by kernel_rfl)
          obtain ⟨mm, s24, s25, s162, s163, s164, s165, s166, s167, s168, s169, s170, s171, s172, rfl, hv⟩ := hj.fr
          have HFTF := hI (And.intro (hv.n12 (all 12 (by omega))) (And.intro hv.bx (hv.b12 (all 11 (by omega)))))
          have es := hv.k11 (all 11 (by omega)); have ee := hv.k13 (all 13 (by omega))
          clear all hv hj hr
          subst es ee
          obtain ⟨n24, hmm⟩ : ∃ x, mm = x := ⟨_, rfl⟩
          rw [hmm] at HFTF ⊢
          clear hmm
          have s0 := Lib.cell_of_heap (HFTF.out.1) 0
          have s1 := Lib.cell_of_heap (HFTF.out.1) 1
          simp at s0 s1
          rw [← HFN.out.1] at s0
          rw [← HFN.out.2] at s1
          have c6 := Lib.cell_of_heap (HFTF.out.2.1.get 3 rfl) 6
          have c7 := Lib.cell_of_heap (HFTF.out.2.1.get 3 rfl) 7
          simp [Inst.cells] at c6 c7
          have hq := run_eql_self i.fn i.fd
          go_wp2_with fail
          refine (awake11_any _ (HT.out.below HFTF.out.2.1.1)).mono ?_
          rintro e wz ⟨rfl, xz⟩
          have HBZ := hI (HFTF.out.2.1.below xz).1
          clear xz
          go_wp2_with fail
          go_ret
          exact ⟨rfl, HBZ.out⟩
         case stTF =>
          as_aux_lemma =>
          intro L a w' hj i hi
          obtain ⟨hun, o, ho, hall⟩ := mem_ready.1 hi
          have hoff := getD_off hun
          have hlt := (Array.getElem?_eq_some_iff.1 ho).1
          simp at hlt
          obtain ⟨mm, s24, s25, s162, s163, s164, s165, s166, s167, s168, s169, s170, s171, s172, rfl, hv⟩ := hj.fr
          have HV := hI hv
          have HJ := hI hj
          clear hv hj
          rcases (show i = 0 ∨ i = 1 ∨ i = 2 ∨ i = 3 ∨ i = 4 ∨ i = 5 ∨ i = 6 ∨ i = 7 ∨ i = 8 ∨ i = 9 ∨ i = 10 ∨ i = 11 ∨ i = 12 ∨ i = 13 from by omega) with rfl | rfl | rfl | rfl | rfl | rfl | rfl | rfl | rfl | rfl | rfl | rfl | rfl | rfl
          ·simp at ho
           subst ho
           clear hall hi
           have hb := HV.out.bx.get 3 rfl
           have c0 := Lib.cell_of_heap hb 0; have c1 := Lib.cell_of_heap hb 1; have c2 := Lib.cell_of_heap hb 2; have c3 := Lib.cell_of_heap hb 3; have c4 := Lib.cell_of_heap hb 4; have c5 := Lib.cell_of_heap hb 5; have c6 := Lib.cell_of_heap hb 6; have c7 := Lib.cell_of_heap hb 7; have c8 := Lib.cell_of_heap hb 8; have c9 := Lib.cell_of_heap hb 9; have c10 := Lib.cell_of_heap hb 10; have c11 := Lib.cell_of_heap hb 11; have c12 := Lib.cell_of_heap hb 12; have c13 := Lib.cell_of_heap hb 13; have c14 := Lib.cell_of_heap hb 14
           simp [Inst.cells] at c0 c1 c2 c3 c4 c5 c6 c7 c8 c9 c10 c11 c12 c13 c14
           refine wpOp_hid rfl fun K' HK => ?_
           go_simp
           cases HV.out
           refine HK.out _ _ ⟨by simp [HJ.out.sz], ?_⟩
           iterate 14 apply Exists.intro
           refine ⟨rfl, ?_⟩
           constructor
           case k0 => exact fun _ => rfl
           case bx => exact HV.out.bx
           case o12 => exact fun h0 h1 => HV.out.o12 (getD_dn (by decide) h0) (getD_df (by decide) h1)
           case q12 => exact fun h => getD_up hun (HV.out.q12 (getD_dn (by decide) h))
           all_goals exact Um (by assumption)
          ·simp at ho
           subst ho
           clear hall hi
           refine wpOp_hid rfl fun K' HK => ?_
           go_simp
           cases HV.out
           refine HK.out _ _ ⟨by simp [HJ.out.sz], ?_⟩
           iterate 14 apply Exists.intro
           refine ⟨rfl, ?_⟩
           constructor
           case k1 => exact fun _ => rfl
           case bx => exact HV.out.bx
           case o12 => exact fun h0 h1 => HV.out.o12 (getD_dn (by decide) h0) (getD_df (by decide) h1)
           case q12 => exact fun h => getD_up hun (HV.out.q12 (getD_dn (by decide) h))
           all_goals exact Um (by assumption)
          ·simp at ho
           subst ho
           clear hall hi
           refine wpOp_hid rfl fun K' HK => ?_
           go_simp
           cases HV.out
           refine HK.out _ _ ⟨by simp [HJ.out.sz], ?_⟩
           iterate 14 apply Exists.intro
           refine ⟨rfl, ?_⟩
           constructor
           case k2 => exact fun _ => rfl
           case bx => exact HV.out.bx
           case o12 => exact fun h0 h1 => HV.out.o12 (getD_dn (by decide) h0) (getD_df (by decide) h1)
           case q12 => exact fun h => getD_up hun (HV.out.q12 (getD_dn (by decide) h))
           all_goals exact Um (by assumption)
          ·simp at ho
           subst ho
           have h1x : L.getD 1 false = true := hall { on := 1, ground := Ground.data } (by simp) (by decide)
           have h2x : L.getD 2 false = true := hall { on := 2, ground := Ground.data } (by simp) (by decide)
           have H1 := hI h1x
           have H2 := hI h2x
           clear hall hi h1x h2x
           have e0 := HV.out.k1 H1.out
           subst e0
           have e1 := HV.out.k2 H2.out
           subst e1
           have hki := HKI.out
           refine wpOp_hid rfl fun K' HK => ?_
           go_simp
           cases HV.out
           refine HK.out _ _ ⟨by simp [HJ.out.sz], ?_⟩
           iterate 14 apply Exists.intro
           refine ⟨rfl, ?_⟩
           constructor
           case k3 => exact fun _ => rfl
           case bx => exact HV.out.bx
           case o12 => exact fun h0 h1 => HV.out.o12 (getD_dn (by decide) h0) (getD_df (by decide) h1)
           case q12 => exact fun h => getD_up hun (HV.out.q12 (getD_dn (by decide) h))
           all_goals exact Um (by assumption)
          ·simp at ho
           subst ho
           have h3x : L.getD 3 false = true := hall { on := 3, ground := Ground.data } (by simp) (by decide)
           have H3 := hI h3x
           clear hall hi h3x
           have e0 := HV.out.k3 H3.out
           subst e0
           refine wpOp_hid rfl fun K' HK => ?_
           go_simp
           cases HV.out
           refine HK.out _ _ ⟨by simp [HJ.out.sz], ?_⟩
           iterate 14 apply Exists.intro
           refine ⟨rfl, ?_⟩
           constructor
           case k4 => exact fun _ => rfl
           case bx => exact HV.out.bx
           case o12 => exact fun h0 h1 => HV.out.o12 (getD_dn (by decide) h0) (getD_df (by decide) h1)
           case q12 => exact fun h => getD_up hun (HV.out.q12 (getD_dn (by decide) h))
           all_goals exact Um (by assumption)
          ·simp at ho
           subst ho
           have h4x : L.getD 4 false = true := hall { on := 4, ground := Ground.data } (by simp) (by decide)
           have H4 := hI h4x
           clear hall hi h4x
           have e0 := HV.out.k4 H4.out
           subst e0
           obtain ⟨cx, cy⟩ := HRR.out _ (HV.out.bx.get 1 rfl)
           refine wpOp_hid rfl fun K' HK => ?_
           go_simp
           cases HV.out
           refine HK.out _ _ ⟨by simp [HJ.out.sz], ?_⟩
           iterate 14 apply Exists.intro
           refine ⟨rfl, ?_⟩
           constructor
           case k5 => exact fun _ => rfl
           case bx => exact HV.out.bx
           case o12 => exact fun h0 h1 => HV.out.o12 (getD_dn (by decide) h0) (getD_df (by decide) h1)
           case q12 => exact fun h => getD_up hun (HV.out.q12 (getD_dn (by decide) h))
           all_goals exact Um (by assumption)
          ·simp at ho
           subst ho
           clear hall hi
           have hb := HV.out.bx.get 0 rfl; have c0 := Lib.cell_of_heap hb 0; have c1 := Lib.cell_of_heap hb 1
           simp at c0 c1
           refine wpOp_hid rfl fun K' HK => ?_
           go_simp
           cases HV.out
           refine HK.out _ _ ⟨by simp [HJ.out.sz], ?_⟩
           iterate 14 apply Exists.intro
           refine ⟨rfl, ?_⟩
           constructor
           case k6 => exact fun _ => rfl
           case bx => exact HV.out.bx
           case o12 => exact fun h0 h1 => HV.out.o12 (getD_dn (by decide) h0) (getD_df (by decide) h1)
           case q12 => exact fun h => getD_up hun (HV.out.q12 (getD_dn (by decide) h))
           all_goals exact Um (by assumption)
          ·simp at ho
           subst ho
           have h0x : L.getD 0 false = true := hall { on := 0, ground := Ground.data } (by simp) (by decide)
           have h5x : L.getD 5 false = true := hall { on := 5, ground := Ground.data } (by simp) (by decide)
           have h6x : L.getD 6 false = true := hall { on := 6, ground := Ground.data } (by simp) (by decide)
           have H0 := hI h0x
           have H5 := hI h5x
           have H6 := hI h6x
           clear hall hi h0x h5x h6x
           have e0 := HV.out.k0 H0.out
           subst e0
           have e1 := HV.out.k5 H5.out
           subst e1
           have e2 := HV.out.k6 H6.out
           subst e2
           refine wpOp_hid rfl fun K' HK => ?_
           go_simp
           refine (HPR1.out _ (HT.out.below (HV.out.bx).1)).mono ?_
           rintro e wn ⟨rfl, hbn⟩
           cases HV.out
           refine HK.out _ _ ⟨by simp [HJ.out.sz], ?_⟩
           iterate 14 apply Exists.intro
           refine ⟨rfl, ?_⟩
           constructor
           case k7 => exact fun _ => rfl
           case bx => exact HV.out.bx.below hbn
           case o12 => exact fun h j => bkeep hbn (HV.out.o12 (getD_dn (by decide) h) (getD_df (by decide) j))
           case n12 => exact fun h => bkeep hbn (HV.out.n12 (getD_dn (by decide) h))
           case q12 => exact fun h => getD_up hun (HV.out.q12 (getD_dn (by decide) h))
           all_goals exact Um (by assumption)
          ·simp at ho
           subst ho
           have h7x : L.getD 7 false = true := hall { on := 7, ground := Ground.data } (by simp) (by decide)
           have H7 := hI h7x
           clear hall hi h7x
           have e0 := HV.out.k7 H7.out
           subst e0
           refine wpOp_hid rfl fun K' HK => ?_
           go_simp
           cases HV.out
           refine HK.out _ _ ⟨by simp [HJ.out.sz], ?_⟩
           iterate 14 apply Exists.intro
           refine ⟨rfl, ?_⟩
           constructor
           case k8 => exact fun _ => rfl
           case bx => exact HV.out.bx
           case o12 => exact fun h0 h1 => HV.out.o12 (getD_dn (by decide) h0) (getD_df (by decide) h1)
           case q12 => exact fun h => getD_up hun (HV.out.q12 (getD_dn (by decide) h))
           all_goals exact Um (by assumption)
          ·simp at ho
           subst ho
           have h8x : L.getD 8 false = true := hall { on := 8, ground := Ground.data } (by simp) (by decide)
           have H8 := hI h8x
           clear hall hi h8x
           have e0 := HV.out.k8 H8.out
           subst e0
           refine wpOp_hid rfl fun K' HK => ?_
           go_simp
           cases HV.out
           refine HK.out _ _ ⟨by simp [HJ.out.sz], ?_⟩
           iterate 14 apply Exists.intro
           refine ⟨rfl, ?_⟩
           constructor
           case k9 => exact fun _ => rfl
           case bx => exact HV.out.bx
           case o12 => exact fun h0 h1 => HV.out.o12 (getD_dn (by decide) h0) (getD_df (by decide) h1)
           case q12 => exact fun h => getD_up hun (HV.out.q12 (getD_dn (by decide) h))
           all_goals exact Um (by assumption)
          ·simp at ho
           subst ho
           have h8x : L.getD 8 false = true := hall { on := 8, ground := Ground.data } (by simp) (by decide)
           have H8 := hI h8x
           clear hall hi h8x
           have e0 := HV.out.k8 H8.out
           subst e0
           refine wpOp_hid rfl fun K' HK => ?_
           go_simp
           cases HV.out
           refine HK.out _ _ ⟨by simp [HJ.out.sz], ?_⟩
           iterate 14 apply Exists.intro
           refine ⟨rfl, ?_⟩
           constructor
           case k10 => exact fun _ => rfl
           case bx => exact HV.out.bx
           case o12 => exact fun h0 h1 => HV.out.o12 (getD_dn (by decide) h0) (getD_df (by decide) h1)
           case q12 => exact fun h => getD_up hun (HV.out.q12 (getD_dn (by decide) h))
           all_goals exact Um (by assumption)
          ·simp at ho
           subst ho
           clear hall hi
           refine wpOp_hid rfl fun K' HK => ?_
           go_simp
           cases HV.out
           refine HK.out _ _ ⟨by simp [HJ.out.sz], w'.heap.size, ?_⟩
           iterate 13 apply Exists.intro
           refine ⟨rfl, ?_⟩
           constructor
           case k11 => exact fun _ => rfl
           case bx => exact HV.out.bx.below ((Below.refl _ w').alloc (Nat.le_refl _) _)
           case o12 => exact fun _ _ => heap_alloc_new w' _
           case b12 => exact fun _ => ⟨HV.out.bx.1.size, fun x hx e => by have := (Array.getElem?_eq_some_iff.1 (HV.out.bx.2 x hx)).1; omega⟩
           case n12 => exact fun h => (not_on hoff (HV.out.q12 (getD_dn (by decide) h))).elim
           case q12 => exact fun h => getD_up hun (HV.out.q12 (getD_dn (by decide) h))
           all_goals exact Um (by assumption)
          ·simp at ho
           subst ho
           have h11x : L.getD 11 false = true := hall { on := 11, ground := Ground.data } (by simp) (by decide)
           have h9x : L.getD 9 false = true := hall { on := 9, ground := Ground.data } (by simp) (by decide)
           have H11 := hI h11x
           have H9 := hI h9x
           clear hall hi h11x h9x
           have e0 := HV.out.k11 H11.out
           subst e0
           have e1 := HV.out.k9 H9.out
           subst e1
           have hko := HV.out.o12 H11.out hoff
           have m0 := Lib.cell_of_heap hko 0; have m1 := Lib.cell_of_heap hko 1; have f0 := Lib.frozen_of_heap hko 0; have f1 := Lib.frozen_of_heap hko 1
           simp at m0 m1 f0 f1
           refine wpOp_hid rfl fun K' HK => ?_
           go_simp
           cases HV.out
           refine HK.out _ _ ⟨by simp [HJ.out.sz], ?_⟩
           iterate 14 apply Exists.intro
           refine ⟨rfl, ?_⟩
           constructor
           case bx => exact HV.out.bx.far (b := mm) (HV.out.b12 H11.out).1 (HV.out.b12 H11.out).2 _ _
           case o12 => exact fun _ h => (not_on h (getD_set_same hun)).elim
           case b12 => exact fun _ => HV.out.b12 H11.out
           case n12 => exact fun _ => (by have h := set2 hko (.string i.fn) (.string i.fd); rw [HFN.out.1, HFN.out.2] at h ⊢; exact h)
           case q12 => exact fun _ => getD_up hun H11.out
           all_goals exact Um (by assumption)
          ·simp at ho
           subst ho
           have h10x : L.getD 10 false = true := hall { on := 10, ground := Ground.data } (by simp) (by decide)
           have H10 := hI h10x
           clear hall hi h10x
           have e0 := HV.out.k10 H10.out
           subst e0
           refine wpOp_hid rfl fun K' HK => ?_
           go_simp
           cases HV.out
           refine HK.out _ _ ⟨by simp [HJ.out.sz], ?_⟩
           iterate 14 apply Exists.intro
           refine ⟨rfl, ?_⟩
           constructor
           case k13 => exact fun _ => rfl
           case bx => exact HV.out.bx
           case o12 => exact fun h0 h1 => HV.out.o12 (getD_dn (by decide) h0) (getD_df (by decide) h1)
           case q12 => exact fun h => getD_up hun (HV.out.q12 (getD_dn (by decide) h))
           all_goals exact Um (by assumption)
      case stTE =>
       as_aux_lemma =>
       intro L a w' hj i hi
       obtain ⟨hun, o, ho, hall⟩ := mem_ready.1 hi
       have hoff := getD_off hun
       have hlt := (Array.getElem?_eq_some_iff.1 ho).1
       simp at hlt
       obtain ⟨s103, s104, s105, s106, s107, s108, s109, s110, s111, s112, s113, s114, s115, s116, s117, s118, s119, s120, s121, rfl, hv⟩ := hj.fr
       have HV := hI hv
       have HJ := hI hj
       clear hv hj
       rcases (show i = 0 ∨ i = 1 ∨ i = 2 ∨ i = 3 ∨ i = 4 ∨ i = 5 ∨ i = 6 ∨ i = 7 ∨ i = 8 ∨ i = 9 ∨ i = 10 ∨ i = 11 ∨ i = 12 ∨ i = 13 ∨ i = 14 ∨ i = 15 ∨ i = 16 ∨ i = 17 ∨ i = 18 from by omega) with rfl | rfl | rfl | rfl | rfl | rfl | rfl | rfl | rfl | rfl | rfl | rfl | rfl | rfl | rfl | rfl | rfl | rfl | rfl
       all_goals simp at ho
       all_goals subst ho
       rotate_left
       cases HV.out.k0 (Hq hall 0).out
       rotate_left
       cases HV.out.k1 (Hq hall 1).out
       rotate_left
       cases HV.out.k2 (Hq hall 2).out
       rotate_left
       cases HV.out.k3 (Hq hall 3).out
       cases HV.out.k2 (Hq hall 2).out
       rotate_left
       cases HV.out.k2 (Hq hall 2).out
       cases HV.out.k4 (Hq hall 4).out
       rotate_left
       cases HV.out.k5 (Hq hall 5).out
       rotate_left
       cases HV.out.k6 (Hq hall 6).out
       rotate_left
       cases HV.out.k7 (Hq hall 7).out
       cases HV.out.k6 (Hq hall 6).out
       rotate_left
       cases HV.out.k6 (Hq hall 6).out
       cases HV.out.k8 (Hq hall 8).out
       rotate_left
       cases HV.out.k9 (Hq hall 9).out
       rotate_left
       cases HV.out.k10 (Hq hall 10).out
       have hb := HV.out.bx.get 2 rfl; have c0 := Lib.cell_of_heap hb 0; have c1 := Lib.cell_of_heap hb 1
       simp at c0 c1
       rotate_left
       cases HV.out.k10 (Hq hall 10).out
       have hb := HV.out.bx.get 0 rfl; have c0 := Lib.cell_of_heap hb 0; have c1 := Lib.cell_of_heap hb 1
       simp at c0 c1
       rotate_left
       ·cases HV.out.k11 (Hq hall 11).out
        cases HV.out.k12 (Hq hall 12).out
        cases HV.out.k10 (Hq hall 10).out
        clear hall hi
        refine wpOp_hid rfl fun K' HK => ?_
        go_simp
        refine (HMG.out _ (HT.out.below (HV.out.bx).1)).mono ?_
        rintro e wn ⟨rfl, hbn⟩
        cases HV.out
        refine HK.out _ _ ⟨by simp [HJ.out.sz], ?_⟩
        iterate 19 apply Exists.intro
        refine ⟨rfl, ?_⟩
        constructor
        case k13 => exact fun _ => rfl
        case bx => exact HV.out.bx.below hbn
        all_goals exact Um (by assumption)
       cases HV.out.k10 (Hq hall 10).out
       have hb := HV.out.bx.get 1 rfl; have c0 := Lib.cell_of_heap hb 0; have c1 := Lib.cell_of_heap hb 1
       simp at c0 c1
       rotate_left
       cases HV.out.k10 (Hq hall 10).out
       have hb := HV.out.bx.get 3 rfl; have c0 := Lib.cell_of_heap hb 0; have c1 := Lib.cell_of_heap hb 1
       simp at c0 c1
       rotate_left
       ·cases HV.out.k14 (Hq hall 14).out
        cases HV.out.k15 (Hq hall 15).out
        cases HV.out.k10 (Hq hall 10).out
        clear hall hi
        refine wpOp_hid rfl fun K' HK => ?_
        go_simp
        refine (HAQ.out _ (HT.out.below (HV.out.bx).1)).mono ?_
        rintro e wn ⟨rfl, hbn⟩
        cases HV.out
        refine HK.out _ _ ⟨by simp [HJ.out.sz], ?_⟩
        iterate 19 apply Exists.intro
        refine ⟨rfl, ?_⟩
        constructor
        case k16 => exact fun _ => rfl
        case bx => exact HV.out.bx.below hbn
        all_goals exact Um (by assumption)
       cases HV.out.k13 (Hq hall 13).out
       cases HV.out.k16 (Hq hall 16).out
       cases HV.out.k10 (Hq hall 10).out
       have hq := run_neq_self (I qs.num) (dn qs)
       rotate_left
       cases HV.out.k10 (Hq hall 10).out
       cases HV.out.k17 (Hq hall 17).out
       rotate_left
       all_goals
        clear hall hi
        refine wpOp_hid rfl fun K' HK => ?_
        go_simp
        cases HV.out
        refine HK.out _ _ ⟨by simp [HJ.out.sz], ?_⟩
        iterate 19 apply Exists.intro
        refine ⟨rfl, ?_⟩
        constructor
        all_goals first | exact Um (by assumption) | exact Un (by assumption) | exact Uf (by assumption) | exact fun _ => rfl | assumption
     case stTD =>
      as_aux_lemma =>
      intro L a w' hj i hi
      obtain ⟨hun, o, ho, hall⟩ := mem_ready.1 hi
      have hoff := getD_off hun
      have hlt := (Array.getElem?_eq_some_iff.1 ho).1
      simp at hlt
      obtain ⟨mm, s16, s100, s101, s102, rfl, hv⟩ := hj.fr
      have HV := hI hv
      have HJ := hI hj
      clear hv hj
      rcases (show i = 0 ∨ i = 1 ∨ i = 2 ∨ i = 3 ∨ i = 4 from by omega) with rfl | rfl | rfl | rfl | rfl
      ·simp at ho
       subst ho
       clear hall hi
       refine wpOp_hid rfl fun K' HK => ?_
       go_simp
       refine (HR1.out _ (HT.out.below (HV.out.bx).1)).mono ?_
       rintro e wn ⟨rfl, hbn⟩
       exact HK.out _ _ ⟨by simp [HJ.out.sz], ⟨_, _, _, _, _, rfl, fun _ => rfl, fun h0 => HV.out.k1 (getD_dn (by decide) h0), fun h0 => HV.out.k2 (getD_dn (by decide) h0), fun h0 => HV.out.k3 (getD_dn (by decide) h0), HV.out.bx.below hbn, fun h j => bkeep hbn (HV.out.o4 (getD_dn (by decide) h) (getD_df (by decide) j)), fun h0 => HV.out.b4 (getD_dn (by decide) h0), fun h => bkeep hbn (HV.out.n4 (getD_dn (by decide) h)), fun h => getD_up hun (HV.out.q4 (getD_dn (by decide) h))⟩⟩
      ·simp at ho
       subst ho
       clear hall hi
       have hb := HV.out.bx.get 4 rfl; have c0 := Lib.cell_of_heap hb 0; have c1 := Lib.cell_of_heap hb 1
       simp at c0 c1
       refine wpOp_hid rfl fun K' HK => ?_
       go_simp
       cases HV.out
       refine HK.out _ _ ⟨by simp [HJ.out.sz], ?_⟩
       iterate 5 apply Exists.intro
       refine ⟨rfl, ?_⟩
       constructor
       case k1 => exact fun _ => rfl
       case bx => exact HV.out.bx
       case o4 => exact fun h0 h1 => HV.out.o4 (getD_dn (by decide) h0) (getD_df (by decide) h1)
       case q4 => exact fun h => getD_up hun (HV.out.q4 (getD_dn (by decide) h))
       all_goals exact Um (by assumption)
      ·simp at ho
       subst ho
       have h0x : L.getD 0 false = true := hall { on := 0, ground := Ground.data } (by simp) (by decide)
       have h1x : L.getD 1 false = true := hall { on := 1, ground := Ground.data } (by simp) (by decide)
       have H0 := hI h0x
       have H1 := hI h1x
       clear hall hi h0x h1x
       have e0 := HV.out.k0 H0.out
       subst e0
       have e1 := HV.out.k1 H1.out
       subst e1
       refine wpOp_hid rfl fun K' HK => ?_
       go_simp
       refine (HAG.out _ (HT.out.below (HV.out.bx).1)).mono ?_
       rintro e wn ⟨rfl, hbn⟩
       exact HK.out _ _ ⟨by simp [HJ.out.sz], ⟨_, _, _, _, _, rfl, fun h0 => HV.out.k0 (getD_dn (by decide) h0), fun h0 => HV.out.k1 (getD_dn (by decide) h0), fun _ => rfl, fun h0 => HV.out.k3 (getD_dn (by decide) h0), HV.out.bx.below hbn, fun h j => bkeep hbn (HV.out.o4 (getD_dn (by decide) h) (getD_df (by decide) j)), fun h0 => HV.out.b4 (getD_dn (by decide) h0), fun h => bkeep hbn (HV.out.n4 (getD_dn (by decide) h)), fun h => getD_up hun (HV.out.q4 (getD_dn (by decide) h))⟩⟩
      ·simp at ho
       subst ho
       clear hall hi
       refine wpOp_hid rfl fun K' HK => ?_
       go_simp
       exact HK.out _ _ ⟨by simp [HJ.out.sz], ⟨w'.heap.size, _, _, _, _, rfl, fun h0 => HV.out.k0 (getD_dn (by decide) h0), fun h0 => HV.out.k1 (getD_dn (by decide) h0), fun h0 => HV.out.k2 (getD_dn (by decide) h0), fun _ => rfl, HV.out.bx.below ((Below.refl _ w').alloc (Nat.le_refl _) _), fun _ _ => heap_alloc_new w' _, fun _ => ⟨HV.out.bx.1.size, fun x hx e => by have := (Array.getElem?_eq_some_iff.1 (HV.out.bx.2 x hx)).1; omega⟩, fun h => (not_on hoff (HV.out.q4 (getD_dn (by decide) h))).elim, fun h => getD_up hun (HV.out.q4 (getD_dn (by decide) h))⟩⟩
      ·simp at ho
       subst ho
       have h3x : L.getD 3 false = true := hall { on := 3, ground := Ground.data } (by simp) (by decide)
       have h2x : L.getD 2 false = true := hall { on := 2, ground := Ground.data } (by simp) (by decide)
       have H3 := hI h3x
       have H2 := hI h2x
       clear hall hi h3x h2x
       have e0 := HV.out.k3 H3.out
       subst e0
       have e1 := HV.out.k2 H2.out
       subst e1
       have hko := HV.out.o4 H3.out hoff
       have m0 := Lib.cell_of_heap hko 0; have m1 := Lib.cell_of_heap hko 1; have f0 := Lib.frozen_of_heap hko 0; have f1 := Lib.frozen_of_heap hko 1
       simp at m0 m1 f0 f1
       refine wpOp_hid rfl fun K' HK => ?_
       go_simp
       exact HK.out _ _ ⟨by simp [HJ.out.sz], ⟨_, _, _, _, _, rfl, fun h0 => HV.out.k0 (getD_dn (by decide) h0), fun h0 => HV.out.k1 (getD_dn (by decide) h0), fun h0 => HV.out.k2 (getD_dn (by decide) h0), fun h0 => HV.out.k3 (getD_dn (by decide) h0), HV.out.bx.far (b := mm) (HV.out.b4 H3.out).1 (HV.out.b4 H3.out).2 _ _, fun _ h => (not_on h (getD_set_same hun)).elim, fun _ => HV.out.b4 H3.out, fun _ => set2 hko _ _, fun _ => getD_up hun H3.out⟩⟩
    case stTC =>
     as_aux_lemma =>
     intro L a w' hj i hi
     obtain ⟨hun, o, ho, hall⟩ := mem_ready.1 hi
     have hoff := getD_off hun
     have hlt := (Array.getElem?_eq_some_iff.1 ho).1
     simp at hlt
     obtain ⟨mm, s14, s15, s89, s90, s91, s92, s93, s94, s95, s96, s97, s98, s99, rfl, hv⟩ := hj.fr
     have HV := hI hv
     have HJ := hI hj
     clear hv hj
     rcases (show i = 0 ∨ i = 1 ∨ i = 2 ∨ i = 3 ∨ i = 4 ∨ i = 5 ∨ i = 6 ∨ i = 7 ∨ i = 8 ∨ i = 9 ∨ i = 10 ∨ i = 11 ∨ i = 12 ∨ i = 13 from by omega) with rfl | rfl | rfl | rfl | rfl | rfl | rfl | rfl | rfl | rfl | rfl | rfl | rfl | rfl
     ·simp at ho
      subst ho
      clear hall hi
      have hb := HV.out.bx.get 4 rfl
      have c0 := Lib.cell_of_heap hb 0; have c1 := Lib.cell_of_heap hb 1; have c2 := Lib.cell_of_heap hb 2; have c3 := Lib.cell_of_heap hb 3; have c4 := Lib.cell_of_heap hb 4; have c5 := Lib.cell_of_heap hb 5; have c6 := Lib.cell_of_heap hb 6; have c7 := Lib.cell_of_heap hb 7; have c8 := Lib.cell_of_heap hb 8; have c9 := Lib.cell_of_heap hb 9; have c10 := Lib.cell_of_heap hb 10; have c11 := Lib.cell_of_heap hb 11; have c12 := Lib.cell_of_heap hb 12; have c13 := Lib.cell_of_heap hb 13; have c14 := Lib.cell_of_heap hb 14
      simp [Inst.cells] at c0 c1 c2 c3 c4 c5 c6 c7 c8 c9 c10 c11 c12 c13 c14
      refine wpOp_hid rfl fun K' HK => ?_
      go_simp
      cases HV.out
      refine HK.out _ _ ⟨by simp [HJ.out.sz], ?_⟩
      iterate 14 apply Exists.intro
      refine ⟨rfl, ?_⟩
      constructor
      case k0 => exact fun _ => rfl
      case bx => exact HV.out.bx
      case o12 => exact fun h0 h1 => HV.out.o12 (getD_dn (by decide) h0) (getD_df (by decide) h1)
      case q12 => exact fun h => getD_up hun (HV.out.q12 (getD_dn (by decide) h))
      all_goals exact Um (by assumption)
     ·simp at ho
      subst ho
      clear hall hi
      refine wpOp_hid rfl fun K' HK => ?_
      go_simp
      cases HV.out
      refine HK.out _ _ ⟨by simp [HJ.out.sz], ?_⟩
      iterate 14 apply Exists.intro
      refine ⟨rfl, ?_⟩
      constructor
      case k1 => exact fun _ => rfl
      case bx => exact HV.out.bx
      case o12 => exact fun h0 h1 => HV.out.o12 (getD_dn (by decide) h0) (getD_df (by decide) h1)
      case q12 => exact fun h => getD_up hun (HV.out.q12 (getD_dn (by decide) h))
      all_goals exact Um (by assumption)
     ·simp at ho
      subst ho
      clear hall hi
      refine wpOp_hid rfl fun K' HK => ?_
      go_simp
      cases HV.out
      refine HK.out _ _ ⟨by simp [HJ.out.sz], ?_⟩
      iterate 14 apply Exists.intro
      refine ⟨rfl, ?_⟩
      constructor
      case k2 => exact fun _ => rfl
      case bx => exact HV.out.bx
      case o12 => exact fun h0 h1 => HV.out.o12 (getD_dn (by decide) h0) (getD_df (by decide) h1)
      case q12 => exact fun h => getD_up hun (HV.out.q12 (getD_dn (by decide) h))
      all_goals exact Um (by assumption)
     ·simp at ho
      subst ho
      have h1x : L.getD 1 false = true := hall { on := 1, ground := Ground.data } (by simp) (by decide)
      have h2x : L.getD 2 false = true := hall { on := 2, ground := Ground.data } (by simp) (by decide)
      have H1 := hI h1x
      have H2 := hI h2x
      clear hall hi h1x h2x
      have e0 := HV.out.k1 H1.out
      subst e0
      have e1 := HV.out.k2 H2.out
      subst e1
      have hki := HKI.out
      refine wpOp_hid rfl fun K' HK => ?_
      go_simp
      cases HV.out
      refine HK.out _ _ ⟨by simp [HJ.out.sz], ?_⟩
      iterate 14 apply Exists.intro
      refine ⟨rfl, ?_⟩
      constructor
      case k3 => exact fun _ => rfl
      case bx => exact HV.out.bx
      case o12 => exact fun h0 h1 => HV.out.o12 (getD_dn (by decide) h0) (getD_df (by decide) h1)
      case q12 => exact fun h => getD_up hun (HV.out.q12 (getD_dn (by decide) h))
      all_goals exact Um (by assumption)
     ·simp at ho
      subst ho
      have h3x : L.getD 3 false = true := hall { on := 3, ground := Ground.data } (by simp) (by decide)
      have H3 := hI h3x
      clear hall hi h3x
      have e0 := HV.out.k3 H3.out
      subst e0
      refine wpOp_hid rfl fun K' HK => ?_
      go_simp
      cases HV.out
      refine HK.out _ _ ⟨by simp [HJ.out.sz], ?_⟩
      iterate 14 apply Exists.intro
      refine ⟨rfl, ?_⟩
      constructor
      case k4 => exact fun _ => rfl
      case bx => exact HV.out.bx
      case o12 => exact fun h0 h1 => HV.out.o12 (getD_dn (by decide) h0) (getD_df (by decide) h1)
      case q12 => exact fun h => getD_up hun (HV.out.q12 (getD_dn (by decide) h))
      all_goals exact Um (by assumption)
     ·simp at ho
      subst ho
      have h4x : L.getD 4 false = true := hall { on := 4, ground := Ground.data } (by simp) (by decide)
      have H4 := hI h4x
      clear hall hi h4x
      have e0 := HV.out.k4 H4.out
      subst e0
      obtain ⟨cx, cy⟩ := HRR.out _ (HV.out.bx.get 2 rfl)
      refine wpOp_hid rfl fun K' HK => ?_
      go_simp
      cases HV.out
      refine HK.out _ _ ⟨by simp [HJ.out.sz], ?_⟩
      iterate 14 apply Exists.intro
      refine ⟨rfl, ?_⟩
      constructor
      case k5 => exact fun _ => rfl
      case bx => exact HV.out.bx
      case o12 => exact fun h0 h1 => HV.out.o12 (getD_dn (by decide) h0) (getD_df (by decide) h1)
      case q12 => exact fun h => getD_up hun (HV.out.q12 (getD_dn (by decide) h))
      all_goals exact Um (by assumption)
     ·simp at ho
      subst ho
      clear hall hi
      have hb := HV.out.bx.get 3 rfl; have c0 := Lib.cell_of_heap hb 0; have c1 := Lib.cell_of_heap hb 1
      simp at c0 c1
      refine wpOp_hid rfl fun K' HK => ?_
      go_simp
      cases HV.out
      refine HK.out _ _ ⟨by simp [HJ.out.sz], ?_⟩
      iterate 14 apply Exists.intro
      refine ⟨rfl, ?_⟩
      constructor
      case k6 => exact fun _ => rfl
      case bx => exact HV.out.bx
      case o12 => exact fun h0 h1 => HV.out.o12 (getD_dn (by decide) h0) (getD_df (by decide) h1)
      case q12 => exact fun h => getD_up hun (HV.out.q12 (getD_dn (by decide) h))
      all_goals exact Um (by assumption)
     ·simp at ho
      subst ho
      have h0x : L.getD 0 false = true := hall { on := 0, ground := Ground.data } (by simp) (by decide)
      have h5x : L.getD 5 false = true := hall { on := 5, ground := Ground.data } (by simp) (by decide)
      have h6x : L.getD 6 false = true := hall { on := 6, ground := Ground.data } (by simp) (by decide)
      have H0 := hI h0x
      have H5 := hI h5x
      have H6 := hI h6x
      clear hall hi h0x h5x h6x
      have e0 := HV.out.k0 H0.out
      subst e0
      have e1 := HV.out.k5 H5.out
      subst e1
      have e2 := HV.out.k6 H6.out
      subst e2
      refine wpOp_hid rfl fun K' HK => ?_
      go_simp
      refine (HPY.out _ (HT.out.below (HV.out.bx).1)).mono ?_
      rintro e wn ⟨rfl, hbn⟩
      cases HV.out
      refine HK.out _ _ ⟨by simp [HJ.out.sz], ?_⟩
      iterate 14 apply Exists.intro
      refine ⟨rfl, ?_⟩
      constructor
      case k7 => exact fun _ => rfl
      case bx => exact HV.out.bx.below hbn
      case o12 => exact fun h j => bkeep hbn (HV.out.o12 (getD_dn (by decide) h) (getD_df (by decide) j))
      case n12 => exact fun h => bkeep hbn (HV.out.n12 (getD_dn (by decide) h))
      case q12 => exact fun h => getD_up hun (HV.out.q12 (getD_dn (by decide) h))
      all_goals exact Um (by assumption)
     ·simp at ho
      subst ho
      have h7x : L.getD 7 false = true := hall { on := 7, ground := Ground.data } (by simp) (by decide)
      have H7 := hI h7x
      clear hall hi h7x
      have e0 := HV.out.k7 H7.out
      subst e0
      refine wpOp_hid rfl fun K' HK => ?_
      go_simp
      cases HV.out
      refine HK.out _ _ ⟨by simp [HJ.out.sz], ?_⟩
      iterate 14 apply Exists.intro
      refine ⟨rfl, ?_⟩
      constructor
      case k8 => exact fun _ => rfl
      case bx => exact HV.out.bx
      case o12 => exact fun h0 h1 => HV.out.o12 (getD_dn (by decide) h0) (getD_df (by decide) h1)
      case q12 => exact fun h => getD_up hun (HV.out.q12 (getD_dn (by decide) h))
      all_goals exact Um (by assumption)
     ·simp at ho
      subst ho
      have h8x : L.getD 8 false = true := hall { on := 8, ground := Ground.data } (by simp) (by decide)
      have H8 := hI h8x
      clear hall hi h8x
      have e0 := HV.out.k8 H8.out
      subst e0
      refine wpOp_hid rfl fun K' HK => ?_
      go_simp
      cases HV.out
      refine HK.out _ _ ⟨by simp [HJ.out.sz], ?_⟩
      iterate 14 apply Exists.intro
      refine ⟨rfl, ?_⟩
      constructor
      case k9 => exact fun _ => rfl
      case bx => exact HV.out.bx
      case o12 => exact fun h0 h1 => HV.out.o12 (getD_dn (by decide) h0) (getD_df (by decide) h1)
      case q12 => exact fun h => getD_up hun (HV.out.q12 (getD_dn (by decide) h))
      all_goals exact Um (by assumption)
     ·simp at ho
      subst ho
      have h8x : L.getD 8 false = true := hall { on := 8, ground := Ground.data } (by simp) (by decide)
      have H8 := hI h8x
      clear hall hi h8x
      have e0 := HV.out.k8 H8.out
      subst e0
      refine wpOp_hid rfl fun K' HK => ?_
      go_simp
      cases HV.out
      refine HK.out _ _ ⟨by simp [HJ.out.sz], ?_⟩
      iterate 14 apply Exists.intro
      refine ⟨rfl, ?_⟩
      constructor
      case k10 => exact fun _ => rfl
      case bx => exact HV.out.bx
      case o12 => exact fun h0 h1 => HV.out.o12 (getD_dn (by decide) h0) (getD_df (by decide) h1)
      case q12 => exact fun h => getD_up hun (HV.out.q12 (getD_dn (by decide) h))
      all_goals exact Um (by assumption)
     ·simp at ho
      subst ho
      clear hall hi
      refine wpOp_hid rfl fun K' HK => ?_
      go_simp
      cases HV.out
      refine HK.out _ _ ⟨by simp [HJ.out.sz], w'.heap.size, ?_⟩
      iterate 13 apply Exists.intro
      refine ⟨rfl, ?_⟩
      constructor
      case k11 => exact fun _ => rfl
      case bx => exact HV.out.bx.below ((Below.refl _ w').alloc (Nat.le_refl _) _)
      case o12 => exact fun _ _ => heap_alloc_new w' _
      case b12 => exact fun _ => ⟨HV.out.bx.1.size, fun x hx e => by have := (Array.getElem?_eq_some_iff.1 (HV.out.bx.2 x hx)).1; omega⟩
      case n12 => exact fun h => (not_on hoff (HV.out.q12 (getD_dn (by decide) h))).elim
      case q12 => exact fun h => getD_up hun (HV.out.q12 (getD_dn (by decide) h))
      all_goals exact Um (by assumption)
     ·simp at ho
      subst ho
      have h11x : L.getD 11 false = true := hall { on := 11, ground := Ground.data } (by simp) (by decide)
      have h9x : L.getD 9 false = true := hall { on := 9, ground := Ground.data } (by simp) (by decide)
      have H11 := hI h11x
      have H9 := hI h9x
      clear hall hi h11x h9x
      have e0 := HV.out.k11 H11.out
      subst e0
      have e1 := HV.out.k9 H9.out
      subst e1
      have hko := HV.out.o12 H11.out hoff
      have m0 := Lib.cell_of_heap hko 0; have m1 := Lib.cell_of_heap hko 1; have f0 := Lib.frozen_of_heap hko 0; have f1 := Lib.frozen_of_heap hko 1
      simp at m0 m1 f0 f1
      refine wpOp_hid rfl fun K' HK => ?_
      go_simp
      cases HV.out
      refine HK.out _ _ ⟨by simp [HJ.out.sz], ?_⟩
      iterate 14 apply Exists.intro
      refine ⟨rfl, ?_⟩
      constructor
      case bx => exact HV.out.bx.far (b := mm) (HV.out.b12 H11.out).1 (HV.out.b12 H11.out).2 _ _
      case o12 => exact fun _ h => (not_on h (getD_set_same hun)).elim
      case b12 => exact fun _ => HV.out.b12 H11.out
      case n12 => exact fun _ => set2 hko _ _
      case q12 => exact fun _ => getD_up hun H11.out
      all_goals exact Um (by assumption)
     ·simp at ho
      subst ho
      have h10x : L.getD 10 false = true := hall { on := 10, ground := Ground.data } (by simp) (by decide)
      have H10 := hI h10x
      clear hall hi h10x
      have e0 := HV.out.k10 H10.out
      subst e0
      refine wpOp_hid rfl fun K' HK => ?_
      go_simp
      cases HV.out
      refine HK.out _ _ ⟨by simp [HJ.out.sz], ?_⟩
      iterate 14 apply Exists.intro
      refine ⟨rfl, ?_⟩
      constructor
      case k13 => exact fun _ => rfl
      case bx => exact HV.out.bx
      case o12 => exact fun h0 h1 => HV.out.o12 (getD_dn (by decide) h0) (getD_df (by decide) h1)
      case q12 => exact fun h => getD_up hun (HV.out.q12 (getD_dn (by decide) h))
      all_goals exact Um (by assumption)
   case stTB =>
    as_aux_lemma =>
    intro L a w' hj i hi
    obtain ⟨hun, o, ho, hall⟩ := mem_ready.1 hi
    have hoff := getD_off hun
    have hlt := (Array.getElem?_eq_some_iff.1 ho).1
    simp at hlt
    obtain ⟨mm, s12, s13, s78, s79, s80, s81, s82, s83, s84, s85, s86, s87, s88, rfl, hv⟩ := hj.fr
    have HV := hI hv
    have HJ := hI hj
    clear hv hj
    rcases (show i = 0 ∨ i = 1 ∨ i = 2 ∨ i = 3 ∨ i = 4 ∨ i = 5 ∨ i = 6 ∨ i = 7 ∨ i = 8 ∨ i = 9 ∨ i = 10 ∨ i = 11 ∨ i = 12 ∨ i = 13 from by omega) with rfl | rfl | rfl | rfl | rfl | rfl | rfl | rfl | rfl | rfl | rfl | rfl | rfl | rfl
    ·simp at ho
     subst ho
     clear hall hi
     have hb := HV.out.bx.get 3 rfl
     have c0 := Lib.cell_of_heap hb 0; have c1 := Lib.cell_of_heap hb 1; have c2 := Lib.cell_of_heap hb 2; have c3 := Lib.cell_of_heap hb 3; have c4 := Lib.cell_of_heap hb 4; have c5 := Lib.cell_of_heap hb 5; have c6 := Lib.cell_of_heap hb 6; have c7 := Lib.cell_of_heap hb 7; have c8 := Lib.cell_of_heap hb 8; have c9 := Lib.cell_of_heap hb 9; have c10 := Lib.cell_of_heap hb 10; have c11 := Lib.cell_of_heap hb 11; have c12 := Lib.cell_of_heap hb 12; have c13 := Lib.cell_of_heap hb 13; have c14 := Lib.cell_of_heap hb 14
     simp [Inst.cells] at c0 c1 c2 c3 c4 c5 c6 c7 c8 c9 c10 c11 c12 c13 c14
     refine wpOp_hid rfl fun K' HK => ?_
     go_simp
     cases HV.out
     refine HK.out _ _ ⟨by simp [HJ.out.sz], ?_⟩
     iterate 14 apply Exists.intro
     refine ⟨rfl, ?_⟩
     constructor
     case k0 => exact fun _ => rfl
     case bx => exact HV.out.bx
     case o12 => exact fun h0 h1 => HV.out.o12 (getD_dn (by decide) h0) (getD_df (by decide) h1)
     case q12 => exact fun h => getD_up hun (HV.out.q12 (getD_dn (by decide) h))
     all_goals exact Um (by assumption)
    ·simp at ho
     subst ho
     clear hall hi
     refine wpOp_hid rfl fun K' HK => ?_
     go_simp
     cases HV.out
     refine HK.out _ _ ⟨by simp [HJ.out.sz], ?_⟩
     iterate 14 apply Exists.intro
     refine ⟨rfl, ?_⟩
     constructor
     case k1 => exact fun _ => rfl
     case bx => exact HV.out.bx
     case o12 => exact fun h0 h1 => HV.out.o12 (getD_dn (by decide) h0) (getD_df (by decide) h1)
     case q12 => exact fun h => getD_up hun (HV.out.q12 (getD_dn (by decide) h))
     all_goals exact Um (by assumption)
    ·simp at ho
     subst ho
     clear hall hi
     refine wpOp_hid rfl fun K' HK => ?_
     go_simp
     cases HV.out
     refine HK.out _ _ ⟨by simp [HJ.out.sz], ?_⟩
     iterate 14 apply Exists.intro
     refine ⟨rfl, ?_⟩
     constructor
     case k2 => exact fun _ => rfl
     case bx => exact HV.out.bx
     case o12 => exact fun h0 h1 => HV.out.o12 (getD_dn (by decide) h0) (getD_df (by decide) h1)
     case q12 => exact fun h => getD_up hun (HV.out.q12 (getD_dn (by decide) h))
     all_goals exact Um (by assumption)
    ·simp at ho
     subst ho
     have h1x : L.getD 1 false = true := hall { on := 1, ground := Ground.data } (by simp) (by decide)
     have h2x : L.getD 2 false = true := hall { on := 2, ground := Ground.data } (by simp) (by decide)
     have H1 := hI h1x
     have H2 := hI h2x
     clear hall hi h1x h2x
     have e0 := HV.out.k1 H1.out
     subst e0
     have e1 := HV.out.k2 H2.out
     subst e1
     have hki := HKI.out
     refine wpOp_hid rfl fun K' HK => ?_
     go_simp
     cases HV.out
     refine HK.out _ _ ⟨by simp [HJ.out.sz], ?_⟩
     iterate 14 apply Exists.intro
     refine ⟨rfl, ?_⟩
     constructor
     case k3 => exact fun _ => rfl
     case bx => exact HV.out.bx
     case o12 => exact fun h0 h1 => HV.out.o12 (getD_dn (by decide) h0) (getD_df (by decide) h1)
     case q12 => exact fun h => getD_up hun (HV.out.q12 (getD_dn (by decide) h))
     all_goals exact Um (by assumption)
    ·simp at ho
     subst ho
     have h3x : L.getD 3 false = true := hall { on := 3, ground := Ground.data } (by simp) (by decide)
     have H3 := hI h3x
     clear hall hi h3x
     have e0 := HV.out.k3 H3.out
     subst e0
     refine wpOp_hid rfl fun K' HK => ?_
     go_simp
     cases HV.out
     refine HK.out _ _ ⟨by simp [HJ.out.sz], ?_⟩
     iterate 14 apply Exists.intro
     refine ⟨rfl, ?_⟩
     constructor
     case k4 => exact fun _ => rfl
     case bx => exact HV.out.bx
     case o12 => exact fun h0 h1 => HV.out.o12 (getD_dn (by decide) h0) (getD_df (by decide) h1)
     case q12 => exact fun h => getD_up hun (HV.out.q12 (getD_dn (by decide) h))
     all_goals exact Um (by assumption)
    ·simp at ho
     subst ho
     have h4x : L.getD 4 false = true := hall { on := 4, ground := Ground.data } (by simp) (by decide)
     have H4 := hI h4x
     clear hall hi h4x
     have e0 := HV.out.k4 H4.out
     subst e0
     obtain ⟨cx, cy⟩ := HRR.out _ (HV.out.bx.get 1 rfl)
     refine wpOp_hid rfl fun K' HK => ?_
     go_simp
     cases HV.out
     refine HK.out _ _ ⟨by simp [HJ.out.sz], ?_⟩
     iterate 14 apply Exists.intro
     refine ⟨rfl, ?_⟩
     constructor
     case k5 => exact fun _ => rfl
     case bx => exact HV.out.bx
     case o12 => exact fun h0 h1 => HV.out.o12 (getD_dn (by decide) h0) (getD_df (by decide) h1)
     case q12 => exact fun h => getD_up hun (HV.out.q12 (getD_dn (by decide) h))
     all_goals exact Um (by assumption)
    ·simp at ho
     subst ho
     clear hall hi
     have hb := HV.out.bx.get 2 rfl; have c0 := Lib.cell_of_heap hb 0; have c1 := Lib.cell_of_heap hb 1
     simp at c0 c1
     refine wpOp_hid rfl fun K' HK => ?_
     go_simp
     cases HV.out
     refine HK.out _ _ ⟨by simp [HJ.out.sz], ?_⟩
     iterate 14 apply Exists.intro
     refine ⟨rfl, ?_⟩
     constructor
     case k6 => exact fun _ => rfl
     case bx => exact HV.out.bx
     case o12 => exact fun h0 h1 => HV.out.o12 (getD_dn (by decide) h0) (getD_df (by decide) h1)
     case q12 => exact fun h => getD_up hun (HV.out.q12 (getD_dn (by decide) h))
     all_goals exact Um (by assumption)
    ·simp at ho
     subst ho
     have h0x : L.getD 0 false = true := hall { on := 0, ground := Ground.data } (by simp) (by decide)
     have h5x : L.getD 5 false = true := hall { on := 5, ground := Ground.data } (by simp) (by decide)
     have h6x : L.getD 6 false = true := hall { on := 6, ground := Ground.data } (by simp) (by decide)
     have H0 := hI h0x
     have H5 := hI h5x
     have H6 := hI h6x
     clear hall hi h0x h5x h6x
     have e0 := HV.out.k0 H0.out
     subst e0
     have e1 := HV.out.k5 H5.out
     subst e1
     have e2 := HV.out.k6 H6.out
     subst e2
     refine wpOp_hid rfl fun K' HK => ?_
     go_simp
     refine (HPX.out _ (HT.out.below (HV.out.bx).1)).mono ?_
     rintro e wn ⟨rfl, hbn⟩
     cases HV.out
     refine HK.out _ _ ⟨by simp [HJ.out.sz], ?_⟩
     iterate 14 apply Exists.intro
     refine ⟨rfl, ?_⟩
     constructor
     case k7 => exact fun _ => rfl
     case bx => exact HV.out.bx.below hbn
     case o12 => exact fun h j => bkeep hbn (HV.out.o12 (getD_dn (by decide) h) (getD_df (by decide) j))
     case n12 => exact fun h => bkeep hbn (HV.out.n12 (getD_dn (by decide) h))
     case q12 => exact fun h => getD_up hun (HV.out.q12 (getD_dn (by decide) h))
     all_goals exact Um (by assumption)
    ·simp at ho
     subst ho
     have h7x : L.getD 7 false = true := hall { on := 7, ground := Ground.data } (by simp) (by decide)
     have H7 := hI h7x
     clear hall hi h7x
     have e0 := HV.out.k7 H7.out
     subst e0
     refine wpOp_hid rfl fun K' HK => ?_
     go_simp
     cases HV.out
     refine HK.out _ _ ⟨by simp [HJ.out.sz], ?_⟩
     iterate 14 apply Exists.intro
     refine ⟨rfl, ?_⟩
     constructor
     case k8 => exact fun _ => rfl
     case bx => exact HV.out.bx
     case o12 => exact fun h0 h1 => HV.out.o12 (getD_dn (by decide) h0) (getD_df (by decide) h1)
     case q12 => exact fun h => getD_up hun (HV.out.q12 (getD_dn (by decide) h))
     all_goals exact Um (by assumption)
    ·simp at ho
     subst ho
     have h8x : L.getD 8 false = true := hall { on := 8, ground := Ground.data } (by simp) (by decide)
     have H8 := hI h8x
     clear hall hi h8x
     have e0 := HV.out.k8 H8.out
     subst e0
     refine wpOp_hid rfl fun K' HK => ?_
     go_simp
     cases HV.out
     refine HK.out _ _ ⟨by simp [HJ.out.sz], ?_⟩
     iterate 14 apply Exists.intro
     refine ⟨rfl, ?_⟩
     constructor
     case k9 => exact fun _ => rfl
     case bx => exact HV.out.bx
     case o12 => exact fun h0 h1 => HV.out.o12 (getD_dn (by decide) h0) (getD_df (by decide) h1)
     case q12 => exact fun h => getD_up hun (HV.out.q12 (getD_dn (by decide) h))
     all_goals exact Um (by assumption)
    ·simp at ho
     subst ho
     have h8x : L.getD 8 false = true := hall { on := 8, ground := Ground.data } (by simp) (by decide)
     have H8 := hI h8x
     clear hall hi h8x
     have e0 := HV.out.k8 H8.out
     subst e0
     refine wpOp_hid rfl fun K' HK => ?_
     go_simp
     cases HV.out
     refine HK.out _ _ ⟨by simp [HJ.out.sz], ?_⟩
     iterate 14 apply Exists.intro
     refine ⟨rfl, ?_⟩
     constructor
     case k10 => exact fun _ => rfl
     case bx => exact HV.out.bx
     case o12 => exact fun h0 h1 => HV.out.o12 (getD_dn (by decide) h0) (getD_df (by decide) h1)
     case q12 => exact fun h => getD_up hun (HV.out.q12 (getD_dn (by decide) h))
     all_goals exact Um (by assumption)
    ·simp at ho
     subst ho
     clear hall hi
     refine wpOp_hid rfl fun K' HK => ?_
     go_simp
     cases HV.out
     refine HK.out _ _ ⟨by simp [HJ.out.sz], w'.heap.size, ?_⟩
     iterate 13 apply Exists.intro
     refine ⟨rfl, ?_⟩
     constructor
     case k11 => exact fun _ => rfl
     case bx => exact HV.out.bx.below ((Below.refl _ w').alloc (Nat.le_refl _) _)
     case o12 => exact fun _ _ => heap_alloc_new w' _
     case b12 => exact fun _ => ⟨HV.out.bx.1.size, fun x hx e => by have := (Array.getElem?_eq_some_iff.1 (HV.out.bx.2 x hx)).1; omega⟩
     case n12 => exact fun h => (not_on hoff (HV.out.q12 (getD_dn (by decide) h))).elim
     case q12 => exact fun h => getD_up hun (HV.out.q12 (getD_dn (by decide) h))
     all_goals exact Um (by assumption)
    ·simp at ho
     subst ho
     have h11x : L.getD 11 false = true := hall { on := 11, ground := Ground.data } (by simp) (by decide)
     have h9x : L.getD 9 false = true := hall { on := 9, ground := Ground.data } (by simp) (by decide)
     have H11 := hI h11x
     have H9 := hI h9x
     clear hall hi h11x h9x
     have e0 := HV.out.k11 H11.out
     subst e0
     have e1 := HV.out.k9 H9.out
     subst e1
     have hko := HV.out.o12 H11.out hoff
     have m0 := Lib.cell_of_heap hko 0; have m1 := Lib.cell_of_heap hko 1; have f0 := Lib.frozen_of_heap hko 0; have f1 := Lib.frozen_of_heap hko 1
     simp at m0 m1 f0 f1
     refine wpOp_hid rfl fun K' HK => ?_
     go_simp
     cases HV.out
     refine HK.out _ _ ⟨by simp [HJ.out.sz], ?_⟩
     iterate 14 apply Exists.intro
     refine ⟨rfl, ?_⟩
     constructor
     case bx => exact HV.out.bx.far (b := mm) (HV.out.b12 H11.out).1 (HV.out.b12 H11.out).2 _ _
     case o12 => exact fun _ h => (not_on h (getD_set_same hun)).elim
     case b12 => exact fun _ => HV.out.b12 H11.out
     case n12 => exact fun _ => set2 hko _ _
     case q12 => exact fun _ => getD_up hun H11.out
     all_goals exact Um (by assumption)
    ·simp at ho
     subst ho
     have h10x : L.getD 10 false = true := hall { on := 10, ground := Ground.data } (by simp) (by decide)
     have H10 := hI h10x
     clear hall hi h10x
     have e0 := HV.out.k10 H10.out
     subst e0
     refine wpOp_hid rfl fun K' HK => ?_
     go_simp
     cases HV.out
     refine HK.out _ _ ⟨by simp [HJ.out.sz], ?_⟩
     iterate 14 apply Exists.intro
     refine ⟨rfl, ?_⟩
     constructor
     case k13 => exact fun _ => rfl
     case bx => exact HV.out.bx
     case o12 => exact fun h0 h1 => HV.out.o12 (getD_dn (by decide) h0) (getD_df (by decide) h1)
     case q12 => exact fun h => getD_up hun (HV.out.q12 (getD_dn (by decide) h))
     all_goals exact Um (by assumption)
end Go.Proofs.YteennkgpeiafaaaGreatDoor
