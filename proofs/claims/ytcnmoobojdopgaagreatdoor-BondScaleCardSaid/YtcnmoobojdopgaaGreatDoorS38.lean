/-
  The walk of tranchelaw11.BondScale. (Printed by gen_law33.py.)
-/
import Derived.Test.YtcnmoobojdopgaaGreatDoorS37
import Derived.Deep.RegionWith
set_option linter.unusedVariables false
set_option linter.unusedSimpArgs false
set_option maxHeartbeats 16000000
set_option maxRecDepth 100000
namespace Go.Proofs.YtcnmoobojdopgaaGreatDoor
open Go.RowKit Tr Go.Shelf
structure SAQV (w : World) (i : Inst) (yn yd zn zd : ByteArray) (d : Int) (q0 q1 q2 q3 q4 q5 q6 b1 b2 sb cy cz zb : Bool) (ky kz zc : Int) (qm : Rat) (nb : Nat) (Ls : Array Bool) (W : World) (s27 s28 s29 s30 s31 s32 s33 s34 s35 s36 s37 s38 s39 s40 s41 s42 s43 s44 s45 s46 s47 s48 s49 s50 s51 s52 s53 s54 s55 s56 s57 s58 s59 s60 s61 s62 s63 : Value) : Prop where
 k0 : Ls.getD 0 false = true → s27 = .agg #[.string i.id, .int .i64 i.kind, .string i.cur, .int .i64 i.places, .int .i64 i.issued, .int .i64 i.matures, .string i.fn, .string i.fd, .string i.cn, .string i.cd, .int .i64 i.months, .int .i64 i.count, .string i.other, .string i.sn, .string i.sd]
 k1 : Ls.getD 1 false = true → s28 = .bool (!q0)
 k2 : Ls.getD 2 false = true → s29 = .bool q0
 k3 : Ls.getD 3 false = true → s30 = .bool q0
 k4 : Ls.getD 4 false = true → s31 = (bif q0 then undef else .int .i64 d)
 k5 : Ls.getD 5 false = true → s32 = (bif q0 then undef else .pointer (some ⟨w.heap.size, 4, none⟩))
 k6 : Ls.getD 6 false = true → s33 = (bif q0 then undef else .int .i64 i.issued)
 k7 : Ls.getD 7 false = true → s34 = (bif q0 then undef else .bool b1)
 k8 : Ls.getD 8 false = true → s35 = .bool q1
 k9 : Ls.getD 9 false = true → s36 = .bool q1
 k10 : Ls.getD 10 false = true → s37 = (bif q1 then undef else .int .i64 d)
 k11 : Ls.getD 11 false = true → s38 = (bif q1 then undef else .pointer (some ⟨w.heap.size, 5, none⟩))
 k12 : Ls.getD 12 false = true → s39 = (bif q1 then undef else .int .i64 i.matures)
 k13 : Ls.getD 13 false = true → s40 = (bif q1 then undef else .bool b2)
 k14 : Ls.getD 14 false = true → s41 = .bool q2
 k15 : Ls.getD 15 false = true → s42 = .bool q2
 k16 : Ls.getD 16 false = true → s43 = (bif q2 then undef else .agg #[.string yn, .string yd])
 k17 : Ls.getD 17 false = true → s44 = (bif q2 then undef else .agg #[.string zn, .string zd])
 k18 : Ls.getD 18 false = true → s45 = (bif q2 then undef else .slice (some ⟨nb, 0, none⟩) 2 2)
 k19 : Ls.getD 19 false = true → s46 = (bif q2 then undef else .bool (!sb))
 k20 : Ls.getD 20 false = true → s47 = .bool q3
 k21 : Ls.getD 21 false = true → s48 = .bool q3
 k22 : Ls.getD 22 false = true → s49 = (bif q3 then undef else .agg #[.string yn, .string yd])
 k23 : Ls.getD 23 false = true → s50 = (bif q3 then undef else .int .i64 ky)
 k24 : Ls.getD 24 false = true → s51 = (bif q3 then undef else .bool cy)
 k25 : Ls.getD 25 false = true → s52 = .bool q4
 k26 : Ls.getD 26 false = true → s53 = .bool q4
 k27 : Ls.getD 27 false = true → s54 = (bif q4 then undef else .agg #[.string zn, .string zd])
 k28 : Ls.getD 28 false = true → s55 = (bif q4 then undef else .int .i64 kz)
 k29 : Ls.getD 29 false = true → s56 = (bif q4 then undef else .bool cz)
 k30 : Ls.getD 30 false = true → s57 = .bool q5
 k31 : Ls.getD 31 false = true → s58 = .bool q5
 k32 : Ls.getD 32 false = true → s59 = (bif q5 then undef else .agg #[.string yn, .string yd])
 k33 : Ls.getD 33 false = true → s60 = (bif q5 then undef else .agg #[.string (I qm.num), .string (dn qm)])
 k34 : Ls.getD 34 false = true → s61 = (bif q5 then undef else .int .i64 zc)
 k35 : Ls.getD 35 false = true → s62 = (bif q5 then undef else .bool zb)
 k36 : Ls.getD 36 false = true → s63 = .bool q6
 bx : BX w [(w.heap.size + 1, Obj.cells #[.string yn, .string yd] 25 (0, 0)), (w.heap.size + 2, Obj.cells #[.string zn, .string zd] 25 (0, 0)), (w.heap.size, Obj.cells i.cells 27 (0, 0))] W
 sl : Ls.getD 18 false = true → Ls.getD 19 false = false → q2 = false → W.heap[nb]? = some (.cells #[.string yn, .string yd, .string zn, .string zd] 25 (0, 0))
structure SAQJ (w : World) (i : Inst) (yn yd zn zd : ByteArray) (d : Int) (q0 q1 q2 q3 q4 q5 q6 b1 b2 sb cy cz zb : Bool) (ky kz zc : Int) (qm : Rat) (x0 x2 x3 x5 x8 x9 x10 x11 x12 x13 x14 x15 x16 x17 x18 x19 x20 x21 x22 x23 x24 x25 x26 x64 x65 x66 x67 x68 x69 x70 x71 x72 x73 x74 x75 x76 x77 x78 x79 x80 x81 x82 x83 x84 x85 x86 x87 x88 x89 x90 x91 x92 x93 x94 x95 x96 x97 x98 x99 x100 x101 x102 x103 x104 x105 x106 x107 x108 x109 x110 x111 x112 x113 x114 x115 x116 x117 x118 x119 x120 x121 x122 x123 x124 x125 x126 x127 x128 x129 x130 x131 x132 x133 x134 x135 x136 x137 x138 x139 x140 x141 x142 x143 x144 x145 x146 x147 x148 x149 x150 x151 x152 x153 x154 x155 x156 x157 x158 x159 x160 x161 x162 x163 x164 x165 x166 x167 x168 x169 x170 x171 x172 x173 x174 x175 x176 x177 x178 x179 x180 x181 x182 x183 x184 x185 x186 x187 x188 x189 x190 x191 x192 x193 x194 x195 x196 x197 : Value) (Ls : Array Bool) (a : Act) (W : World) : Prop where
 sz : Ls.size = 37
 fr : ∃ nb : Nat, ∃ s27 s28 s29 s30 s31 s32 s33 s34 s35 s36 s37 s38 s39 s40 s41 s42 s43 s44 s45 s46 s47 s48 s49 s50 s51 s52 s53 s54 s55 s56 s57 s58 s59 s60 s61 s62 s63 : Value, a = { tmps := #[x0, .int .i64 d, x2, x3, .pointer (some ⟨w.heap.size, 0, none⟩), x5, .pointer (some ⟨w.heap.size + 1, 0, none⟩), .pointer (some ⟨w.heap.size + 2, 0, none⟩), x8, x9, x10, x11, x12, x13, x14, x15, x16, x17, x18, x19, x20, x21, x22, x23, x24, x25, x26, s27, s28, s29, s30, s31, s32, s33, s34, s35, s36, s37, s38, s39, s40, s41, s42, s43, s44, s45, s46, s47, s48, s49, s50, s51, s52, s53, s54, s55, s56, s57, s58, s59, s60, s61, s62, s63, x64, x65, x66, x67, x68, x69, x70, x71, x72, x73, x74, x75, x76, x77, x78, x79, x80, x81, x82, x83, x84, x85, x86, x87, x88, x89, x90, x91, x92, x93, x94, x95, x96, x97, x98, x99, x100, x101, x102, x103, x104, x105, x106, x107, x108, x109, x110, x111, x112, x113, x114, x115, x116, x117, x118, x119, x120, x121, x122, x123, x124, x125, x126, x127, x128, x129, x130, x131, x132, x133, x134, x135, x136, x137, x138, x139, x140, x141, x142, x143, x144, x145, x146, x147, x148, x149, x150, x151, x152, x153, x154, x155, x156, x157, x158, x159, x160, x161, x162, x163, x164, x165, x166, x167, x168, x169, x170, x171, x172, x173, x174, x175, x176, x177, x178, x179, x180, x181, x182, x183, x184, x185, x186, x187, x188, x189, x190, x191, x192, x193, x194, x195, x196, x197], defers := [] } ∧ SAQV w i yn yd zn zd d q0 q1 q2 q3 q4 q5 q6 b1 b2 sb cy cz zb ky kz zc qm nb Ls W s27 s28 s29 s30 s31 s32 s33 s34 s35 s36 s37 s38 s39 s40 s41 s42 s43 s44 s45 s46 s47 s48 s49 s50 s51 s52 s53 s54 s55 s56 s57 s58 s59 s60 s61 s62 s63
structure SBV (w : World) (bl : List (Nat × Obj)) (al am : Addr) (F cl cm n9' nb k : Nat) (fd : Int) (fq fm qt : Rat)  (L : Array Bool) (W : World) (s155 s156 s157 s158 s159 s160 s161 s162 s163 s164 s165 s166 s167 s168 s169 s170 s171 s172 s173 s174 : Value) : Prop where
 k0 : L.getD 0 false = true → s155 = .slice (some am) F cm
 k1 : L.getD 1 false = true → s156 = .int .i64 (k : Int)
 k2 : L.getD 2 false = true → s157 = .pointer (some (am.add (k * 3)))
 k3 : L.getD 3 false = true → s158 = .pointer (some (am.add (k * 3)))
 k4 : L.getD 4 false = true → s159 = .int .i64 fd
 k5 : L.getD 5 false = true → s160 = .pointer (some ⟨nb, 0, none⟩)
 k6 : L.getD 6 false = true → s161 = .int .i64 fd
 k7 : L.getD 7 false = true → s162 = .bool false
 k8 : L.getD 8 false = true → s163 = .bool false
 k9 : L.getD 9 false = true → s164 = .slice (some am) F cm
 k10 : L.getD 10 false = true → s165 = .int .i64 (k : Int)
 k11 : L.getD 11 false = true → s166 = .pointer (some (am.add (k * 3)))
 k12 : L.getD 12 false = true → s167 = .pointer (some ⟨(am.add (k * 3)).block, (am.add (k * 3)).off + 1, none⟩)
 k13 : L.getD 13 false = true → s168 = .agg #[.string (I fm.num), .string (dn fm)]
 k14 : L.getD 14 false = true → s169 = .pointer (some ⟨nb, 1, none⟩)
 k15 : L.getD 15 false = true → s170 = .agg #[.string (I fq.num), .string (dn fq)]
 k16 : L.getD 16 false = true → s171 = .agg #[.string (I qt.num), .string (dn qt)]
 k17 : L.getD 17 false = true → s172 = .agg #[.string (I fm.num), .string (dn fm)]
 k18 : L.getD 18 false = true → s173 = .bool false
 k19 : L.getD 19 false = true → s174 = .bool false
 bx : BX w ((nb, Obj.cells #[.int .i64 fd, .string (I fq.num), .string (dn fq)] 43 (0, 0)) :: bl) W
structure SBJ (w : World) (bl : List (Nat × Obj)) (al am : Addr) (F cl cm n9' nb k : Nat) (fd : Int) (fq fm qt : Rat) (x0 x1 x2 x3 x4 x5 x6 x7 x8 x10 x11 x12 x14 x15 x16 x17 x18 x19 x20 x21 x22 x23 x24 x27 x28 x29 x30 x31 x32 x33 x34 x35 x36 x37 x38 x39 x40 x41 x42 x43 x44 x45 x46 x47 x48 x49 x50 x51 x52 x53 x54 x55 x56 x57 x58 x59 x60 x61 x62 x63 x64 x65 x66 x67 x68 x69 x70 x71 x72 x73 x74 x75 x76 x77 x78 x79 x80 x81 x82 x83 x84 x85 x86 x87 x88 x89 x90 x91 x92 x93 x94 x95 x96 x97 x98 x99 x100 x101 x102 x103 x104 x105 x106 x107 x108 x109 x110 x111 x112 x113 x114 x115 x116 x117 x118 x119 x120 x121 x122 x123 x124 x125 x126 x127 x128 x129 x130 x131 x132 x133 x134 x135 x136 x137 x138 x139 x140 x141 x142 x143 x144 x145 x146 x147 x148 x149 x150 x151 x152 x153 x154 x175 x176 x177 x178 x179 x180 x181 x182 x183 x184 x185 x186 x187 x188 x189 x190 x191 x192 x193 x194 x195 x196 x197 : Value) (L : Array Bool) (a : Act) (W : World) : Prop where
 sz : L.size = 20
 fr : ∃ s155 s156 s157 s158 s159 s160 s161 s162 s163 s164 s165 s166 s167 s168 s169 s170 s171 s172 s173 s174 : Value, a = { tmps := #[x0, x1, x2, x3, x4, x5, x6, x7, x8, .pointer (some ⟨n9', 0, none⟩), x10, x11, x12, .slice (some am) F cm, x14, x15, x16, x17, x18, x19, x20, x21, x22, x23, x24, .int .i64 (k : Int), .pointer (some ⟨nb, 0, none⟩), x27, x28, x29, x30, x31, x32, x33, x34, x35, x36, x37, x38, x39, x40, x41, x42, x43, x44, x45, x46, x47, x48, x49, x50, x51, x52, x53, x54, x55, x56, x57, x58, x59, x60, x61, x62, x63, x64, x65, x66, x67, x68, x69, x70, x71, x72, x73, x74, x75, x76, x77, x78, x79, x80, x81, x82, x83, x84, x85, x86, x87, x88, x89, x90, x91, x92, x93, x94, x95, x96, x97, x98, x99, x100, x101, x102, x103, x104, x105, x106, x107, x108, x109, x110, x111, x112, x113, x114, x115, x116, x117, x118, x119, x120, x121, x122, x123, x124, x125, x126, x127, x128, x129, x130, x131, x132, x133, x134, x135, x136, x137, x138, x139, x140, x141, x142, x143, x144, x145, x146, x147, x148, x149, x150, x151, x152, x153, x154, s155, s156, s157, s158, s159, s160, s161, s162, s163, s164, s165, s166, s167, s168, s169, s170, s171, s172, s173, s174, x175, x176, x177, x178, x179, x180, x181, x182, x183, x184, x185, x186, x187, x188, x189, x190, x191, x192, x193, x194, x195, x196, x197], defers := [] } ∧ SBV w bl al am F cl cm n9' nb k fd fq fm qt  L W s155 s156 s157 s158 s159 s160 s161 s162 s163 s164 s165 s166 s167 s168 s169 s170 s171 s172 s173 s174
structure SCV (w : World) (bl : List (Nat × Obj)) (n9' n15 n17 n19 n21 n23 : Nat) (qa qb qp qq qx qz qt : Rat)  (L : Array Bool) (W : World) (s8 s176 s177 s178 s179 s180 s181 s182 s183 s184 s185 s186 s187 s188 s189 s190 s191 s192 s193 s194 s195 s196 s197 : Value) : Prop where
 k0 : L.getD 0 false = true → s176 = .agg #[.string (I qb.num), .string (dn qb)]
 k1 : L.getD 1 false = true → s177 = .agg #[.string (I qa.num), .string (dn qa)]
 k2 : L.getD 2 false = true → s178 = .agg #[.string (I qt.num), .string (dn qt)]
 k3 : L.getD 3 false = true → s179 = .agg #[.string (I qb.num), .string (dn qb)]
 k4 : L.getD 4 false = true → s180 = .bool true
 k5 : L.getD 5 false = true → s181 = .bool true
 k6 : L.getD 6 false = true → s182 = .agg #[.string (I qq.num), .string (dn qq)]
 k7 : L.getD 7 false = true → s183 = .agg #[.string (I qp.num), .string (dn qp)]
 k8 : L.getD 8 false = true → s184 = .agg #[.string (I qt.num), .string (dn qt)]
 k9 : L.getD 9 false = true → s185 = .agg #[.string (I qq.num), .string (dn qq)]
 k10 : L.getD 10 false = true → s186 = .bool true
 k11 : L.getD 11 false = true → s187 = .bool true
 k12 : L.getD 12 false = true → s188 = .bool true
 k13 : L.getD 13 false = true → s189 = .agg #[.string (I qx.num), .string (dn qx)]
 k14 : L.getD 14 false = true → s190 = .agg #[.string (I qa.num), .string (dn qa)]
 k15 : L.getD 15 false = true → s191 = .agg #[.string (I qz.num), .string (dn qz)]
 k16 : L.getD 16 false = true → s192 = .agg #[.string (I qz.num), .string (dn qz)]
 k17 : L.getD 17 false = true → s193 = .bool true
 k18 : L.getD 18 false = true → s194 = .bool true
 k19 : L.getD 19 false = true → s195 = .bool true
 k20 : L.getD 20 false = true → s196 = .bool true
 k21 : L.getD 21 false = true → s197 = .bool true
 k22 : L.getD 22 false = true → s8 = .bool true
 bx : BX w bl W
structure SCJ (w : World) (bl : List (Nat × Obj)) (n9' n15 n17 n19 n21 n23 : Nat) (qa qb qp qq qx qz qt : Rat) (x0 x1 x2 x3 x4 x5 x6 x10 x11 x12 x13 x14 x16 x18 x20 x22 x24 x25 x26 x27 x28 x29 x30 x31 x32 x33 x34 x35 x36 x37 x38 x39 x40 x41 x42 x43 x44 x45 x46 x47 x48 x49 x50 x51 x52 x53 x54 x55 x56 x57 x58 x59 x60 x61 x62 x63 x64 x65 x66 x67 x68 x69 x70 x71 x72 x73 x74 x75 x76 x77 x78 x79 x80 x81 x82 x83 x84 x85 x86 x87 x88 x89 x90 x91 x92 x93 x94 x95 x96 x97 x98 x99 x100 x101 x102 x103 x104 x105 x106 x107 x108 x109 x110 x111 x112 x113 x114 x115 x116 x117 x118 x119 x120 x121 x122 x123 x124 x125 x126 x127 x128 x129 x130 x131 x132 x133 x134 x135 x136 x137 x138 x139 x140 x141 x142 x143 x144 x145 x146 x147 x148 x149 x150 x151 x152 x153 x154 x155 x156 x157 x158 x159 x160 x161 x162 x163 x164 x165 x166 x167 x168 x169 x170 x171 x172 x173 x174 x175 : Value) (L : Array Bool) (a : Act) (W : World) : Prop where
 sz : L.size = 23
 fr : ∃ s8 s176 s177 s178 s179 s180 s181 s182 s183 s184 s185 s186 s187 s188 s189 s190 s191 s192 s193 s194 s195 s196 s197 : Value, a = { tmps := #[x0, x1, x2, x3, x4, x5, x6, .pointer (some ⟨w.heap.size + 2, 0, none⟩), s8, .pointer (some ⟨n9', 0, none⟩), x10, x11, x12, x13, x14, .pointer (some ⟨n15, 0, none⟩), x16, .pointer (some ⟨n17, 0, none⟩), x18, .pointer (some ⟨n19, 0, none⟩), x20, .pointer (some ⟨n21, 0, none⟩), x22, .pointer (some ⟨n23, 0, none⟩), x24, x25, x26, x27, x28, x29, x30, x31, x32, x33, x34, x35, x36, x37, x38, x39, x40, x41, x42, x43, x44, x45, x46, x47, x48, x49, x50, x51, x52, x53, x54, x55, x56, x57, x58, x59, x60, x61, x62, x63, x64, x65, x66, x67, x68, x69, x70, x71, x72, x73, x74, x75, x76, x77, x78, x79, x80, x81, x82, x83, x84, x85, x86, x87, x88, x89, x90, x91, x92, x93, x94, x95, x96, x97, x98, x99, x100, x101, x102, x103, x104, x105, x106, x107, x108, x109, x110, x111, x112, x113, x114, x115, x116, x117, x118, x119, x120, x121, x122, x123, x124, x125, x126, x127, x128, x129, x130, x131, x132, x133, x134, x135, x136, x137, x138, x139, x140, x141, x142, x143, x144, x145, x146, x147, x148, x149, x150, x151, x152, x153, x154, x155, x156, x157, x158, x159, x160, x161, x162, x163, x164, x165, x166, x167, x168, x169, x170, x171, x172, x173, x174, x175, s176, s177, s178, s179, s180, s181, s182, s183, s184, s185, s186, s187, s188, s189, s190, s191, s192, s193, s194, s195, s196, s197], defers := [] } ∧ SCV w bl n9' n15 n17 n19 n21 n23 qa qb qp qq qx qz qt  L W s8 s176 s177 s178 s179 s180 s181 s182 s183 s184 s185 s186 s187 s188 s189 s190 s191 s192 s193 s194 s195 s196 s197
theorem BondScale_any (i : Inst) (d : Int) (yn yd zn zd : ByteArray) (w : World) (ht : Tabs w) :
 Calls Tryz.prog 3 #[i.enc, .int .i64 d, .agg #[.string yn, .string yd], .agg #[.string zn, .string zd]] w fun e w' => e = .returned (.bool true) ∧ Below w.heap.size w w' := by
 have HT := hI ht
 obtain ⟨W0, hW0', hB0, hz, k0, k1, k2⟩ := box3 w (.cells i.cells 27) (.cells #[.string yn, .string yd] 25) (.cells #[.string zn, .string zd] 25)
 have hW0 := hW0'.symm
 have HG0 : Hid (BX w [(w.heap.size + 1, Obj.cells #[.string yn, .string yd] 25 (0, 0)), (w.heap.size + 2, Obj.cells #[.string zn, .string zd] 25 (0, 0)), (w.heap.size, Obj.cells i.cells 27 (0, 0))] W0) := ⟨hB0, fun x hx => by
  rcases List.mem_cons.1 hx with rfl | hx
  ·exact k1
  ·rcases List.mem_cons.1 hx with rfl | hx
   ·exact k2
   ·rcases List.mem_cons.1 hx with rfl | hx
    ·exact k0
    ·cases hx⟩
 clear hB0 hz k0 k1 k2 ht hW0'
 unfold Inst.enc Inst.cells at *
 go_enter Tryz.func3, Tryz.ntmps3
 go_wp2_with fail
 obtain ⟨q0, hq0⟩ : ∃ b, (!fineB i) = b := ⟨_, rfl⟩
 have hfb : fineB i = !q0 := by rw [← hq0, Bool.not_not]
 obtain ⟨b1, hb1⟩ : ∃ b, decide (d < i.issued) = b := ⟨_, rfl⟩
 obtain ⟨b2, hb2⟩ : ∃ b, decide (i.matures < d) = b := ⟨_, rfl⟩
 obtain ⟨sb, hsb⟩ : ∃ b, propB (Short13 [(yn, yd), (zn, zd)]) = b := ⟨_, rfl⟩
 obtain ⟨ky, hky⟩ : ∃ k : Int, (CanQ yn yd ∧ k = 0) ∨ (¬ CanQ yn yd ∧ k = 1) := by
  by_cases h : CanQ yn yd
  ·exact ⟨0, .inl ⟨h, rfl⟩⟩
  ·exact ⟨1, .inr ⟨h, rfl⟩⟩
 obtain ⟨cy, hcy⟩ : ∃ b, (ky != 0) = b := ⟨_, rfl⟩
 obtain ⟨kz, hkz⟩ : ∃ k : Int, (CanQ zn zd ∧ k = 0) ∨ (¬ CanQ zn zd ∧ k = 1) := by
  by_cases h : CanQ zn zd
  ·exact ⟨0, .inl ⟨h, rfl⟩⟩
  ·exact ⟨1, .inr ⟨h, rfl⟩⟩
 obtain ⟨cz, hcz⟩ : ∃ b, (kz != 0) = b := ⟨_, rfl⟩
 obtain ⟨qm, hqm⟩ : ∃ q : Rat, (-1 : Rat) = q := ⟨_, rfl⟩
 obtain ⟨zc, hzc⟩ : ∃ z, cmpI (fv yn yd - qm).num 0 = z := ⟨_, rfl⟩
 obtain ⟨zb, hzb⟩ : ∃ b, decide (zc ≤ 0) = b := ⟨_, rfl⟩
 obtain ⟨q1, hq1⟩ : ∃ b, b = (q0 || b1) := ⟨_, rfl⟩
 have HQ1 := hI hq1
 obtain ⟨q2, hq2⟩ : ∃ b, b = (q1 || b2) := ⟨_, rfl⟩
 have HQ2 := hI hq2
 obtain ⟨q3, hq3⟩ : ∃ b, b = (q2 || !sb) := ⟨_, rfl⟩
 have HQ3 := hI hq3
 obtain ⟨q4, hq4⟩ : ∃ b, b = (q3 || cy) := ⟨_, rfl⟩
 have HQ4 := hI hq4
 obtain ⟨q5, hq5⟩ : ∃ b, b = (q4 || cz) := ⟨_, rfl⟩
 have HQ5 := hI hq5
 obtain ⟨q6, hq6⟩ : ∃ b, b = (q5 || zb) := ⟨_, rfl⟩
 have HQ6 := hI hq6
 have down : ∀ {a b c : Bool}, a = (b || c) → a = false → b = false ∧ c = false := fun {a b c} h h' => by rw [h, Bool.or_eq_false_iff] at h'; exact h'
 have hs3 : q3 = false → sb = true := fun h => by have h1 := (down hq3 h).2; simpa using h1
 have hs4 : q4 = false → sb = true := fun h => hs3 (down hq4 h).1
 have hs5 : q5 = false → sb = true := fun h => hs4 (down hq5 h).1
 have HFI : Hid (∀ W, BX w [(w.heap.size + 1, Obj.cells #[.string yn, .string yd] 25 (0, 0)), (w.heap.size + 2, Obj.cells #[.string zn, .string zd] 25 (0, 0)), (w.heap.size, Obj.cells i.cells 27 (0, 0))] W → Calls Tryz.prog 6 #[.agg #[.string i.id, .int .i64 i.kind, .string i.cur, .int .i64 i.places, .int .i64 i.issued, .int .i64 i.matures, .string i.fn, .string i.fd, .string i.cn, .string i.cd, .int .i64 i.months, .int .i64 i.count, .string i.other, .string i.sn, .string i.sd]] W fun e w' => e = .returned (.bool (!q0)) ∧ Below W.heap.size W w') := fun W _ => by
  refine (fine11_ex i W).mono ?_
  rintro e wn ⟨rfl, bn⟩
  rw [hfb]
  exact ⟨rfl, bn⟩
 have HLO : Hid (∀ (W : World) (b : Nat), W.heap[b]? = some (.cells #[.string yn, .string yd, .string zn, .string zd] 25 (0, 0)) → Calls Tryz.prog 7 #[.slice (some ⟨b, 0, none⟩) 2 2] W fun e w' => e = .returned (.bool (!sb)) ∧ Below W.heap.size W w') := fun W b hb => by
  refine (long11_ex [(yn, yd), (zn, zd)] 2 b rfl (by omega) W hb).mono ?_
  rintro e wn ⟨rfl, rfl⟩
  rw [hsb]
  exact ⟨rfl, Below.refl _ _⟩
 have HCKy : Hid (q3 = false → ∀ W, BX w [(w.heap.size + 1, Obj.cells #[.string yn, .string yd] 25 (0, 0)), (w.heap.size + 2, Obj.cells #[.string zn, .string zd] 25 (0, 0)), (w.heap.size, Obj.cells i.cells 27 (0, 0))] W → Calls Tryz.prog 8 #[.agg #[.string yn, .string yd]] W fun e w' => e = .returned (.int .i64 ky) ∧ Below W.heap.size W w') := fun hs W hW => by
  have h13 := propB_iff.1 (hsb.trans (hs3 hs))
  rcases hky with ⟨hc, rfl⟩ | ⟨hc, rfl⟩
  ·exact fCheck_yes yn yd W (by have := (h13 (yn, yd) (by simp)).1; simp only at this; omega) (by have := (h13 (yn, yd) (by simp)).2; simp only at this; omega) hc (HT.out.below hW.1)
  ·exact fCheck_no yn yd W (by have := (h13 (yn, yd) (by simp)).1; simp only at this; omega) (by have := (h13 (yn, yd) (by simp)).2; simp only at this; omega) hc (HT.out.below hW.1)
 have HCKz : Hid (q4 = false → ∀ W, BX w [(w.heap.size + 1, Obj.cells #[.string yn, .string yd] 25 (0, 0)), (w.heap.size + 2, Obj.cells #[.string zn, .string zd] 25 (0, 0)), (w.heap.size, Obj.cells i.cells 27 (0, 0))] W → Calls Tryz.prog 8 #[.agg #[.string zn, .string zd]] W fun e w' => e = .returned (.int .i64 kz) ∧ Below W.heap.size W w') := fun hs W hW => by
  have h13 := propB_iff.1 (hsb.trans (hs4 hs))
  rcases hkz with ⟨hc, rfl⟩ | ⟨hc, rfl⟩
  ·exact fCheck_yes zn zd W (by have := (h13 (zn, zd) (by simp)).1; simp only at this; omega) (by have := (h13 (zn, zd) (by simp)).2; simp only at this; omega) hc (HT.out.below hW.1)
  ·exact fCheck_no zn zd W (by have := (h13 (zn, zd) (by simp)).1; simp only at this; omega) (by have := (h13 (zn, zd) (by simp)).2; simp only at this; omega) hc (HT.out.below hW.1)
 have HRM : Hid (∀ W, BX w [(w.heap.size + 1, Obj.cells #[.string yn, .string yd] 25 (0, 0)), (w.heap.size + 2, Obj.cells #[.string zn, .string zd] 25 (0, 0)), (w.heap.size, Obj.cells i.cells 27 (0, 0))] W → Calls Tryz.prog 10 #[.int .i64 (-1), .int .i64 1] W fun e w' => e = .returned (.agg #[.string (I qm.num), .string (dn qm)]) ∧ Below W.heap.size W w') := fun W hW => ratio11_to (-1) 1 qm (by rw [← hqm]; kernel_rfl) (by omega) (by omega) (by omega) (by omega) (by omega) W (HT.out.below hW.1)
 have HCM : Hid (q5 = false → ∀ W, BX w [(w.heap.size + 1, Obj.cells #[.string yn, .string yd] 25 (0, 0)), (w.heap.size + 2, Obj.cells #[.string zn, .string zd] 25 (0, 0)), (w.heap.size, Obj.cells i.cells 27 (0, 0))] W → Calls Tryz.prog 9 #[.agg #[.string yn, .string yd], .agg #[.string (I qm.num), .string (dn qm)]] W fun e w' => e = .returned (.int .i64 zc) ∧ Below W.heap.size W w') := fun hs W hW => by
  have h13 := propB_iff.1 (hsb.trans (hs5 hs))
  have hqs : (I qm.num).size ≤ 900000 ∧ (dn qm).size ≤ 900000 := by rw [← hqm]; exact ⟨by decide, by decide⟩
  have h := fCompare_any yn yd (I qm.num) (dn qm) W (by have := (h13 (yn, yd) (by simp)).1; simp only at this; omega) (by have := (h13 (yn, yd) (by simp)).2; simp only at this; omega) hqs.1 hqs.2 (HT.out.below hW.1)
  rw [fv_enc, hzc] at h
  exact h
 have HOK : Hid (q6 = false → Fine11 i ∧ i.issued ≤ d ∧ d ≤ i.matures ∧ Short13 [(yn, yd), (zn, zd)] ∧ CanQ yn yd ∧ CanQ zn zd ∧ 0 < 1 + fv yn yd) := fun h6 => by
  obtain ⟨h5, e6⟩ := down hq6 h6
  obtain ⟨h4, e5⟩ := down hq5 h5
  obtain ⟨h3, e4⟩ := down hq4 h4
  obtain ⟨h2, e3⟩ := down hq3 h3
  obtain ⟨h1, e2⟩ := down hq2 h2
  obtain ⟨h0, e1⟩ := down hq1 h1
  have hz := (cmpz (fv yn yd - qm)).2.1
  rw [hzc, ← hqm] at hz
  have hz0 := of_decide_eq_false (hzb.trans e6)
  exact ⟨fineB_yes (by rw [hfb, h0]; rfl), by have := of_decide_eq_false (hb1.trans e1); omega, by have := of_decide_eq_false (hb2.trans e2); omega, propB_iff.1 (hsb.trans (by simpa using e3)), (by
   rcases hky with ⟨h, _⟩ | ⟨_, h⟩
   ·exact h
   ·rw [e4, h] at hcy; exact absurd hcy (by decide)), (by
   rcases hkz with ⟨h, _⟩ | ⟨_, h⟩
   ·exact h
   ·rw [e5, h] at hcz; exact absurd hcz (by decide)), by have := hz.1 (by omega); grind⟩
 have HB1 := hI hb1
 have HB2 := hI hb2
 have HB2' : Hid (decide (d > i.matures) = b2) := hb2
 have HCy := hI hcy
 have HCz := hI hcz
 have HZB := hI hzb
 clear hfb hq0 hsb hqm hzc hb1 hb2 hzb down hky hcy hkz hcz hq1 hq2 hq3 hq4 hq5 hq6 hs3 hs4 hs5
 go_cut [63] (fun v wx => v = .bool q6 ∧ BX w [(w.heap.size + 1, Obj.cells #[.string yn, .string yd] 25 (0, 0)), (w.heap.size + 2, Obj.cells #[.string zn, .string zd] 25 (0, 0)), (w.heap.size, Obj.cells i.cells 27 (0, 0))] wx)
 case first =>
  as_aux_lemma =>
  have hg : BX w [(w.heap.size + 1, Obj.cells #[.string yn, .string yd] 25 (0, 0)), (w.heap.size + 2, Obj.cells #[.string zn, .string zd] 25 (0, 0)), (w.heap.size, Obj.cells i.cells 27 (0, 0))] W0.drew := ⟨HG0.out.1.drew, HG0.out.2⟩
  clear HG0 hW0 HOK
  have mixed : Tryz.prog.follows .mixedOrders = true := by kernel_rfl
  refine wp_region_any mixed (wpAny_inv (SAQJ w i yn yd zn zd d q0 q1 q2 q3 q4 q5 q6 b1 b2 sb cy cz zb ky kz zc qm _ _ _ _ _ _ _ _ _ _ _ _ _ _ _ _ _ _ _ _ _ _ _ _ _ _ _ _ _ _ _ _ _ _ _ _ _ _ _ _ _ _ _ _ _ _ _ _ _ _ _ _ _ _ _ _ _ _ _ _ _ _ _ _ _ _ _ _ _ _ _ _ _ _ _ _ _ _ _ _ _ _ _ _ _ _ _ _ _ _ _ _ _ _ _ _ _ _ _ _ _ _ _ _ _ _ _ _ _ _ _ _ _ _ _ _ _ _ _ _ _ _ _ _ _ _ _ _ _ _ _ _ _ _ _ _ _ _ _ _ _ _ _ _ _ _ _ _ _ _ _ _ _ _ _ _ _) ?stSAQ ?dnSAQ _ _ _ _ ⟨by simp, ⟨0, _, _, _, _, _, _, _, _, _, _, _, _, _, _, _, _, _, _, _, _, _, _, _, _, _, _, _, _, _, _, _, _, _, _, _, _, _, rfl, fun h => by simp at h, fun h => by simp at h, fun h => by simp at h, fun h => by simp at h, fun h => by simp at h, fun h => by simp at h, fun h => by simp at h, fun h => by simp at h, fun h => by simp at h, fun h => by simp at h, fun h => by simp at h, fun h => by simp at h, fun h => by simp at h, fun h => by simp at h, fun h => by simp at h, fun h => by simp at h, fun h => by simp at h, fun h => by simp at h, fun h => by simp at h, fun h => by simp at h, fun h => by simp at h, fun h => by simp at h, fun h => by simp at h, fun h => by simp at h, fun h => by simp at h, fun h => by simp at h, fun h => by simp at h, fun h => by simp at h, fun h => by simp at h, fun h => by simp at h, fun h => by simp at h, fun h => by simp at h, fun h => by simp at h, fun h => by simp at h, fun h => by simp at h, fun h => by simp at h, fun h => by simp at h, hg, fun h => by simp at h⟩⟩ (by decide))
  case dnSAQ =>
   as_aux_lemma =>
   intro Ls a w' hj hr
   have all := all_on hr hj.sz (by kernel_rfl)
   obtain ⟨nb, s27, s28, s29, s30, s31, s32, s33, s34, s35, s36, s37, s38, s39, s40, s41, s42, s43, s44, s45, s46, s47, s48, s49, s50, s51, s52, s53, s54, s55, s56, s57, s58, s59, s60, s61, s62, s63, rfl, hv⟩ := hj.fr
   have HF := hI hv.bx
   have ex := hv.k36 (all 36 (by omega))
   clear all hv hj hr
   subst ex
   go_wp2_with fail
   go_meet
   exact ⟨rfl, HF.out⟩
  case stSAQ =>
   as_aux_lemma =>
   intro Ls a w' hj i hi
   obtain ⟨hun, o, ho, hall⟩ := mem_ready.1 hi
   have hoff := getD_off hun
   have hlt := (Array.getElem?_eq_some_iff.1 ho).1
   simp at hlt
   obtain ⟨nb, s27, s28, s29, s30, s31, s32, s33, s34, s35, s36, s37, s38, s39, s40, s41, s42, s43, s44, s45, s46, s47, s48, s49, s50, s51, s52, s53, s54, s55, s56, s57, s58, s59, s60, s61, s62, s63, rfl, hv⟩ := hj.fr
   have HV := hI hv
   have HJ := hI hj
   clear hv hj
   rcases (show i = 0 ∨ i = 1 ∨ i = 2 ∨ i = 3 ∨ i = 4 ∨ i = 5 ∨ i = 6 ∨ i = 7 ∨ i = 8 ∨ i = 9 ∨ i = 10 ∨ i = 11 ∨ i = 12 ∨ i = 13 ∨ i = 14 ∨ i = 15 ∨ i = 16 ∨ i = 17 ∨ i = 18 ∨ i = 19 ∨ i = 20 ∨ i = 21 ∨ i = 22 ∨ i = 23 ∨ i = 24 ∨ i = 25 ∨ i = 26 ∨ i = 27 ∨ i = 28 ∨ i = 29 ∨ i = 30 ∨ i = 31 ∨ i = 32 ∨ i = 33 ∨ i = 34 ∨ i = 35 ∨ i = 36 from by omega) with rfl | rfl | rfl | rfl | rfl | rfl | rfl | rfl | rfl | rfl | rfl | rfl | rfl | rfl | rfl | rfl | rfl | rfl | rfl | rfl | rfl | rfl | rfl | rfl | rfl | rfl | rfl | rfl | rfl | rfl | rfl | rfl | rfl | rfl | rfl | rfl | rfl
   ·as_aux_lemma =>
    simp at ho
    subst ho
    clear hall hi
    have hb := HV.out.bx.get 2 rfl; have c0 := Lib.cell_of_heap hb 0; have c1 := Lib.cell_of_heap hb 1; have c2 := Lib.cell_of_heap hb 2; have c3 := Lib.cell_of_heap hb 3; have c4 := Lib.cell_of_heap hb 4; have c5 := Lib.cell_of_heap hb 5; have c6 := Lib.cell_of_heap hb 6; have c7 := Lib.cell_of_heap hb 7; have c8 := Lib.cell_of_heap hb 8; have c9 := Lib.cell_of_heap hb 9; have c10 := Lib.cell_of_heap hb 10; have c11 := Lib.cell_of_heap hb 11; have c12 := Lib.cell_of_heap hb 12; have c13 := Lib.cell_of_heap hb 13; have c14 := Lib.cell_of_heap hb 14
    simp [Inst.cells] at c0 c1 c2 c3 c4 c5 c6 c7 c8 c9 c10 c11 c12 c13 c14
    refine wpOp_hid rfl fun K' HK => ?_
    go_simp
    cases HV.out
    refine HK.out _ _ ⟨by simp [HJ.out.sz], ?_⟩
    iterate 38 apply Exists.intro
    refine ⟨rfl, ?_⟩
    constructor
    case k0 => exact fun _ => rfl
    case bx => exact HV.out.bx
    case sl => exact fun h0 h1 => HV.out.sl (getD_dn (by decide) h0) (getD_df (by decide) h1)
    all_goals exact Um (by assumption)
   ·as_aux_lemma =>
    simp at ho
    subst ho
    have h0x : Ls.getD 0 false = true := hall { on := 0, ground := Ground.data } (by simp) (by decide)
    have H0 := hI h0x
    clear hall hi h0x
    have e0 := HV.out.k0 H0.out
    subst e0
    refine wpOp_hid rfl fun K' HK => ?_
    go_simp
    refine (HFI.out _ HV.out.bx).mono ?_
    rintro e wn ⟨rfl, hbn⟩
    cases HV.out
    refine HK.out _ _ ⟨by simp [HJ.out.sz], ?_⟩
    iterate 38 apply Exists.intro
    refine ⟨rfl, ?_⟩
    constructor
    case k1 => exact fun _ => rfl
    case bx => exact HV.out.bx.below hbn
    case sl => exact fun h i j => bkeep hbn (HV.out.sl (getD_dn (by decide) h) (getD_df (by decide) i) j)
    all_goals exact Um (by assumption)
   ·as_aux_lemma =>
    simp at ho
    subst ho
    have h1x : Ls.getD 1 false = true := hall { on := 1, ground := Ground.data } (by simp) (by decide)
    have H1 := hI h1x
    clear hall hi h1x
    have e0 := HV.out.k1 H1.out
    subst e0
    refine wpOp_hid rfl fun K' HK => ?_
    go_simp
    cases HV.out
    refine HK.out _ _ ⟨by simp [HJ.out.sz], ?_⟩
    iterate 38 apply Exists.intro
    refine ⟨rfl, ?_⟩
    constructor
    case k2 => exact fun _ => rfl
    case bx => exact HV.out.bx
    case sl => exact fun h0 h1 => HV.out.sl (getD_dn (by decide) h0) (getD_df (by decide) h1)
    all_goals exact Um (by assumption)
   ·as_aux_lemma =>
    simp at ho
    subst ho
    have h2x : Ls.getD 2 false = true := hall { on := 2, ground := Ground.data } (by simp) (by decide)
    have H2 := hI h2x
    clear hall hi h2x
    have e0 := HV.out.k2 H2.out
    subst e0
    refine wpOp_hid rfl fun K' HK => ?_
    go_simp
    cases HV.out
    refine HK.out _ _ ⟨by simp [HJ.out.sz], ?_⟩
    iterate 38 apply Exists.intro
    refine ⟨rfl, ?_⟩
    constructor
    case k3 => exact fun _ => rfl
    case bx => exact HV.out.bx
    case sl => exact fun h0 h1 => HV.out.sl (getD_dn (by decide) h0) (getD_df (by decide) h1)
    all_goals exact Um (by assumption)
   ·as_aux_lemma =>
    simp at ho
    subst ho
    have h3x : Ls.getD 3 false = true := hall { on := 3, ground := Ground.guard } (by simp) (by decide)
    have H3 := hI h3x
    clear hall hi h3x
    have e0 := HV.out.k3 H3.out
    subst e0
    cases q0
    case true =>
     refine wpOp_hid rfl fun K' HK => ?_
     go_simp
     cases HV.out
     refine HK.out _ _ ⟨by simp [HJ.out.sz], ?_⟩
     iterate 38 apply Exists.intro
     refine ⟨rfl, ?_⟩
     constructor
     case k4 => exact fun _ => rfl
     case bx => exact HV.out.bx
     case sl => exact fun h0 h1 => HV.out.sl (getD_dn (by decide) h0) (getD_df (by decide) h1)
     all_goals exact Um (by assumption)
    case false =>
     refine wpOp_hid rfl fun K' HK => ?_
     go_simp
     cases HV.out
     refine HK.out _ _ ⟨by simp [HJ.out.sz], ?_⟩
     iterate 38 apply Exists.intro
     refine ⟨rfl, ?_⟩
     constructor
     case k4 => exact fun _ => rfl
     case bx => exact HV.out.bx
     case sl => exact fun h0 h1 => HV.out.sl (getD_dn (by decide) h0) (getD_df (by decide) h1)
     all_goals exact Um (by assumption)
   ·as_aux_lemma =>
    simp at ho
    subst ho
    have h3x : Ls.getD 3 false = true := hall { on := 3, ground := Ground.guard } (by simp) (by decide)
    have H3 := hI h3x
    clear hall hi h3x
    have e0 := HV.out.k3 H3.out
    subst e0
    cases q0
    case true =>
     refine wpOp_hid rfl fun K' HK => ?_
     go_simp
     cases HV.out
     refine HK.out _ _ ⟨by simp [HJ.out.sz], ?_⟩
     iterate 38 apply Exists.intro
     refine ⟨rfl, ?_⟩
     constructor
     case k5 => exact fun _ => rfl
     case bx => exact HV.out.bx
     case sl => exact fun h0 h1 => HV.out.sl (getD_dn (by decide) h0) (getD_df (by decide) h1)
     all_goals exact Um (by assumption)
    case false =>
     refine wpOp_hid rfl fun K' HK => ?_
     go_simp
     cases HV.out
     refine HK.out _ _ ⟨by simp [HJ.out.sz], ?_⟩
     iterate 38 apply Exists.intro
     refine ⟨rfl, ?_⟩
     constructor
     case k5 => exact fun _ => rfl
     case bx => exact HV.out.bx
     case sl => exact fun h0 h1 => HV.out.sl (getD_dn (by decide) h0) (getD_df (by decide) h1)
     all_goals exact Um (by assumption)
   ·as_aux_lemma =>
    simp at ho
    subst ho
    have h5x : Ls.getD 5 false = true := hall { on := 5, ground := Ground.data } (by simp) (by decide)
    have h3x : Ls.getD 3 false = true := hall { on := 3, ground := Ground.guard } (by simp) (by decide)
    have H5 := hI h5x
    have H3 := hI h3x
    clear hall hi h5x h3x
    have e0 := HV.out.k5 H5.out
    subst e0
    have e1 := HV.out.k3 H3.out
    subst e1
    cases q0
    case true =>
     refine wpOp_hid rfl fun K' HK => ?_
     go_simp
     cases HV.out
     refine HK.out _ _ ⟨by simp [HJ.out.sz], ?_⟩
     iterate 38 apply Exists.intro
     refine ⟨rfl, ?_⟩
     constructor
     case k6 => exact fun _ => rfl
     case bx => exact HV.out.bx
     case sl => exact fun h0 h1 => HV.out.sl (getD_dn (by decide) h0) (getD_df (by decide) h1)
     all_goals exact Um (by assumption)
    case false =>
     have hb := HV.out.bx.get 2 rfl; have c0 := Lib.cell_of_heap hb 4
     simp [Inst.cells] at c0
     refine wpOp_hid rfl fun K' HK => ?_
     go_simp
     cases HV.out
     refine HK.out _ _ ⟨by simp [HJ.out.sz], ?_⟩
     iterate 38 apply Exists.intro
     refine ⟨rfl, ?_⟩
     constructor
     case k6 => exact fun _ => rfl
     case bx => exact HV.out.bx
     case sl => exact fun h0 h1 => HV.out.sl (getD_dn (by decide) h0) (getD_df (by decide) h1)
     all_goals exact Um (by assumption)
   ·as_aux_lemma =>
    simp at ho
    subst ho
    have h4x : Ls.getD 4 false = true := hall { on := 4, ground := Ground.data } (by simp) (by decide)
    have h6x : Ls.getD 6 false = true := hall { on := 6, ground := Ground.data } (by simp) (by decide)
    have h3x : Ls.getD 3 false = true := hall { on := 3, ground := Ground.guard } (by simp) (by decide)
    have H4 := hI h4x
    have H6 := hI h6x
    have H3 := hI h3x
    clear hall hi h4x h6x h3x
    have e0 := HV.out.k4 H4.out
    subst e0
    have e1 := HV.out.k6 H6.out
    subst e1
    have e2 := HV.out.k3 H3.out
    subst e2
    cases q0
    case true =>
     refine wpOp_hid rfl fun K' HK => ?_
     go_simp
     cases HV.out
     refine HK.out _ _ ⟨by simp [HJ.out.sz], ?_⟩
     iterate 38 apply Exists.intro
     refine ⟨rfl, ?_⟩
     constructor
     case k7 => exact fun _ => rfl
     case bx => exact HV.out.bx
     case sl => exact fun h0 h1 => HV.out.sl (getD_dn (by decide) h0) (getD_df (by decide) h1)
     all_goals exact Um (by assumption)
    case false =>
     have hb1 := HB1.out
     refine wpOp_hid rfl fun K' HK => ?_
     go_simp
     cases HV.out
     refine HK.out _ _ ⟨by simp [HJ.out.sz], ?_⟩
     iterate 38 apply Exists.intro
     refine ⟨rfl, ?_⟩
     constructor
     case k7 => exact fun _ => rfl
     case bx => exact HV.out.bx
     case sl => exact fun h0 h1 => HV.out.sl (getD_dn (by decide) h0) (getD_df (by decide) h1)
     all_goals exact Um (by assumption)
   ·as_aux_lemma =>
    simp at ho
    subst ho
    have h3x : Ls.getD 3 false = true := hall { on := 3, ground := Ground.data } (by simp) (by decide)
    have h7x : Ls.getD 7 false = true := hall { on := 7, ground := Ground.data } (by simp) (by decide)
    have H3 := hI h3x
    have H7 := hI h7x
    clear hall hi h3x h7x
    have e0 := HV.out.k3 H3.out
    subst e0
    have e1 := HV.out.k7 H7.out
    subst e1
    cases q0
    case true =>
     refine wpOp_hid rfl fun K' HK => ?_
     go_simp
     cases HV.out
     refine HK.out _ _ ⟨by simp [HJ.out.sz], ?_⟩
     iterate 38 apply Exists.intro
     refine ⟨rfl, ?_⟩
     constructor
     case k8 => exact fun _ => congrArg Value.bool HQ1.out.symm
     case bx => exact HV.out.bx
     case sl => exact fun h0 h1 => HV.out.sl (getD_dn (by decide) h0) (getD_df (by decide) h1)
     all_goals exact Um (by assumption)
    case false =>
     refine wpOp_hid rfl fun K' HK => ?_
     go_simp
     cases HV.out
     refine HK.out _ _ ⟨by simp [HJ.out.sz], ?_⟩
     iterate 38 apply Exists.intro
     refine ⟨rfl, ?_⟩
     constructor
     case k8 => exact fun _ => congrArg Value.bool HQ1.out.symm
     case bx => exact HV.out.bx
     case sl => exact fun h0 h1 => HV.out.sl (getD_dn (by decide) h0) (getD_df (by decide) h1)
     all_goals exact Um (by assumption)
   ·as_aux_lemma =>
    simp at ho
    subst ho
    have h8x : Ls.getD 8 false = true := hall { on := 8, ground := Ground.data } (by simp) (by decide)
    have H8 := hI h8x
    clear hall hi h8x
    have e0 := HV.out.k8 H8.out
    subst e0
    refine wpOp_hid rfl fun K' HK => ?_
    go_simp
    cases HV.out
    refine HK.out _ _ ⟨by simp [HJ.out.sz], ?_⟩
    iterate 38 apply Exists.intro
    refine ⟨rfl, ?_⟩
    constructor
    case k9 => exact fun _ => rfl
    case bx => exact HV.out.bx
    case sl => exact fun h0 h1 => HV.out.sl (getD_dn (by decide) h0) (getD_df (by decide) h1)
    all_goals exact Um (by assumption)
   ·as_aux_lemma =>
    simp at ho
    subst ho
    have h9x : Ls.getD 9 false = true := hall { on := 9, ground := Ground.guard } (by simp) (by decide)
    have H9 := hI h9x
    clear hall hi h9x
    have e0 := HV.out.k9 H9.out
    subst e0
    cases q1
    case true =>
     refine wpOp_hid rfl fun K' HK => ?_
     go_simp
     cases HV.out
     refine HK.out _ _ ⟨by simp [HJ.out.sz], ?_⟩
     iterate 38 apply Exists.intro
     refine ⟨rfl, ?_⟩
     constructor
     case k10 => exact fun _ => rfl
     case bx => exact HV.out.bx
     case sl => exact fun h0 h1 => HV.out.sl (getD_dn (by decide) h0) (getD_df (by decide) h1)
     all_goals exact Um (by assumption)
    case false =>
     refine wpOp_hid rfl fun K' HK => ?_
     go_simp
     cases HV.out
     refine HK.out _ _ ⟨by simp [HJ.out.sz], ?_⟩
     iterate 38 apply Exists.intro
     refine ⟨rfl, ?_⟩
     constructor
     case k10 => exact fun _ => rfl
     case bx => exact HV.out.bx
     case sl => exact fun h0 h1 => HV.out.sl (getD_dn (by decide) h0) (getD_df (by decide) h1)
     all_goals exact Um (by assumption)
   ·as_aux_lemma =>
    simp at ho
    subst ho
    have h9x : Ls.getD 9 false = true := hall { on := 9, ground := Ground.guard } (by simp) (by decide)
    have H9 := hI h9x
    clear hall hi h9x
    have e0 := HV.out.k9 H9.out
    subst e0
    cases q1
    case true =>
     refine wpOp_hid rfl fun K' HK => ?_
     go_simp
     cases HV.out
     refine HK.out _ _ ⟨by simp [HJ.out.sz], ?_⟩
     iterate 38 apply Exists.intro
     refine ⟨rfl, ?_⟩
     constructor
     case k11 => exact fun _ => rfl
     case bx => exact HV.out.bx
     case sl => exact fun h0 h1 => HV.out.sl (getD_dn (by decide) h0) (getD_df (by decide) h1)
     all_goals exact Um (by assumption)
    case false =>
     refine wpOp_hid rfl fun K' HK => ?_
     go_simp
     cases HV.out
     refine HK.out _ _ ⟨by simp [HJ.out.sz], ?_⟩
     iterate 38 apply Exists.intro
     refine ⟨rfl, ?_⟩
     constructor
     case k11 => exact fun _ => rfl
     case bx => exact HV.out.bx
     case sl => exact fun h0 h1 => HV.out.sl (getD_dn (by decide) h0) (getD_df (by decide) h1)
     all_goals exact Um (by assumption)
   ·as_aux_lemma =>
    simp at ho
    subst ho
    have h11x : Ls.getD 11 false = true := hall { on := 11, ground := Ground.data } (by simp) (by decide)
    have h9x : Ls.getD 9 false = true := hall { on := 9, ground := Ground.guard } (by simp) (by decide)
    have H11 := hI h11x
    have H9 := hI h9x
    clear hall hi h11x h9x
    have e0 := HV.out.k11 H11.out
    subst e0
    have e1 := HV.out.k9 H9.out
    subst e1
    cases q1
    case true =>
     refine wpOp_hid rfl fun K' HK => ?_
     go_simp
     cases HV.out
     refine HK.out _ _ ⟨by simp [HJ.out.sz], ?_⟩
     iterate 38 apply Exists.intro
     refine ⟨rfl, ?_⟩
     constructor
     case k12 => exact fun _ => rfl
     case bx => exact HV.out.bx
     case sl => exact fun h0 h1 => HV.out.sl (getD_dn (by decide) h0) (getD_df (by decide) h1)
     all_goals exact Um (by assumption)
    case false =>
     have hb := HV.out.bx.get 2 rfl; have c0 := Lib.cell_of_heap hb 5
     simp [Inst.cells] at c0
     refine wpOp_hid rfl fun K' HK => ?_
     go_simp
     cases HV.out
     refine HK.out _ _ ⟨by simp [HJ.out.sz], ?_⟩
     iterate 38 apply Exists.intro
     refine ⟨rfl, ?_⟩
     constructor
     case k12 => exact fun _ => rfl
     case bx => exact HV.out.bx
     case sl => exact fun h0 h1 => HV.out.sl (getD_dn (by decide) h0) (getD_df (by decide) h1)
     all_goals exact Um (by assumption)
   ·as_aux_lemma =>
    simp at ho
    subst ho
    have h10x : Ls.getD 10 false = true := hall { on := 10, ground := Ground.data } (by simp) (by decide)
    have h12x : Ls.getD 12 false = true := hall { on := 12, ground := Ground.data } (by simp) (by decide)
    have h9x : Ls.getD 9 false = true := hall { on := 9, ground := Ground.guard } (by simp) (by decide)
    have H10 := hI h10x
    have H12 := hI h12x
    have H9 := hI h9x
    clear hall hi h10x h12x h9x
    have e0 := HV.out.k10 H10.out
    subst e0
    have e1 := HV.out.k12 H12.out
    subst e1
    have e2 := HV.out.k9 H9.out
    subst e2
    cases q1
    case true =>
     refine wpOp_hid rfl fun K' HK => ?_
     go_simp
     cases HV.out
     refine HK.out _ _ ⟨by simp [HJ.out.sz], ?_⟩
     iterate 38 apply Exists.intro
     refine ⟨rfl, ?_⟩
     constructor
     case k13 => exact fun _ => rfl
     case bx => exact HV.out.bx
     case sl => exact fun h0 h1 => HV.out.sl (getD_dn (by decide) h0) (getD_df (by decide) h1)
     all_goals exact Um (by assumption)
    case false =>
     have hb2 := HB2.out; have hb2' := HB2'.out
     refine wpOp_hid rfl fun K' HK => ?_
     go_simp
     cases HV.out
     refine HK.out _ _ ⟨by simp [HJ.out.sz], ?_⟩
     iterate 38 apply Exists.intro
     refine ⟨rfl, ?_⟩
     constructor
     case k13 => exact fun _ => rfl
     case bx => exact HV.out.bx
     case sl => exact fun h0 h1 => HV.out.sl (getD_dn (by decide) h0) (getD_df (by decide) h1)
     all_goals exact Um (by assumption)
   ·as_aux_lemma =>
    simp at ho
    subst ho
    have h9x : Ls.getD 9 false = true := hall { on := 9, ground := Ground.data } (by simp) (by decide)
    have h13x : Ls.getD 13 false = true := hall { on := 13, ground := Ground.data } (by simp) (by decide)
    have H9 := hI h9x
    have H13 := hI h13x
    clear hall hi h9x h13x
    have e0 := HV.out.k9 H9.out
    subst e0
    have e1 := HV.out.k13 H13.out
    subst e1
    cases q1
    case true =>
     refine wpOp_hid rfl fun K' HK => ?_
     go_simp
     cases HV.out
     refine HK.out _ _ ⟨by simp [HJ.out.sz], ?_⟩
     iterate 38 apply Exists.intro
     refine ⟨rfl, ?_⟩
     constructor
     case k14 => exact fun _ => congrArg Value.bool HQ2.out.symm
     case bx => exact HV.out.bx
     case sl => exact fun h0 h1 => HV.out.sl (getD_dn (by decide) h0) (getD_df (by decide) h1)
     all_goals exact Um (by assumption)
    case false =>
     refine wpOp_hid rfl fun K' HK => ?_
     go_simp
     cases HV.out
     refine HK.out _ _ ⟨by simp [HJ.out.sz], ?_⟩
     iterate 38 apply Exists.intro
     refine ⟨rfl, ?_⟩
     constructor
     case k14 => exact fun _ => congrArg Value.bool HQ2.out.symm
     case bx => exact HV.out.bx
     case sl => exact fun h0 h1 => HV.out.sl (getD_dn (by decide) h0) (getD_df (by decide) h1)
     all_goals exact Um (by assumption)
   ·as_aux_lemma =>
    simp at ho
    subst ho
    have h14x : Ls.getD 14 false = true := hall { on := 14, ground := Ground.data } (by simp) (by decide)
    have H14 := hI h14x
    clear hall hi h14x
    have e0 := HV.out.k14 H14.out
    subst e0
    refine wpOp_hid rfl fun K' HK => ?_
    go_simp
    cases HV.out
    refine HK.out _ _ ⟨by simp [HJ.out.sz], ?_⟩
    iterate 38 apply Exists.intro
    refine ⟨rfl, ?_⟩
    constructor
    case k15 => exact fun _ => rfl
    case bx => exact HV.out.bx
    case sl => exact fun h0 h1 => HV.out.sl (getD_dn (by decide) h0) (getD_df (by decide) h1)
    all_goals exact Um (by assumption)
   ·as_aux_lemma =>
    simp at ho
    subst ho
    have h15x : Ls.getD 15 false = true := hall { on := 15, ground := Ground.guard } (by simp) (by decide)
    have H15 := hI h15x
    clear hall hi h15x
    have e0 := HV.out.k15 H15.out
    subst e0
    cases q2
    case true =>
     refine wpOp_hid rfl fun K' HK => ?_
     go_simp
     cases HV.out
     refine HK.out _ _ ⟨by simp [HJ.out.sz], ?_⟩
     iterate 38 apply Exists.intro
     refine ⟨rfl, ?_⟩
     constructor
     case k16 => exact fun _ => rfl
     case bx => exact HV.out.bx
     case sl => exact fun h0 h1 => HV.out.sl (getD_dn (by decide) h0) (getD_df (by decide) h1)
     all_goals exact Um (by assumption)
    case false =>
     obtain ⟨u0, u1⟩ := cells2 (HV.out.bx.get 0 rfl)
     refine wpOp_hid rfl fun K' HK => ?_
     go_simp
     cases HV.out
     refine HK.out _ _ ⟨by simp [HJ.out.sz], ?_⟩
     iterate 38 apply Exists.intro
     refine ⟨rfl, ?_⟩
     constructor
     case k16 => exact fun _ => rfl
     case bx => exact HV.out.bx
     case sl => exact fun h0 h1 => HV.out.sl (getD_dn (by decide) h0) (getD_df (by decide) h1)
     all_goals exact Um (by assumption)
   ·as_aux_lemma =>
    simp at ho
    subst ho
    have h15x : Ls.getD 15 false = true := hall { on := 15, ground := Ground.guard } (by simp) (by decide)
    have H15 := hI h15x
    clear hall hi h15x
    have e0 := HV.out.k15 H15.out
    subst e0
    cases q2
    case true =>
     refine wpOp_hid rfl fun K' HK => ?_
     go_simp
     cases HV.out
     refine HK.out _ _ ⟨by simp [HJ.out.sz], ?_⟩
     iterate 38 apply Exists.intro
     refine ⟨rfl, ?_⟩
     constructor
     case k17 => exact fun _ => rfl
     case bx => exact HV.out.bx
     case sl => exact fun h0 h1 => HV.out.sl (getD_dn (by decide) h0) (getD_df (by decide) h1)
     all_goals exact Um (by assumption)
    case false =>
     obtain ⟨u0, u1⟩ := cells2 (HV.out.bx.get 1 rfl)
     refine wpOp_hid rfl fun K' HK => ?_
     go_simp
     cases HV.out
     refine HK.out _ _ ⟨by simp [HJ.out.sz], ?_⟩
     iterate 38 apply Exists.intro
     refine ⟨rfl, ?_⟩
     constructor
     case k17 => exact fun _ => rfl
     case bx => exact HV.out.bx
     case sl => exact fun h0 h1 => HV.out.sl (getD_dn (by decide) h0) (getD_df (by decide) h1)
     all_goals exact Um (by assumption)
   ·as_aux_lemma =>
    simp at ho
    subst ho
    have h16x : Ls.getD 16 false = true := hall { on := 16, ground := Ground.data } (by simp) (by decide)
    have h17x : Ls.getD 17 false = true := hall { on := 17, ground := Ground.data } (by simp) (by decide)
    have h15x : Ls.getD 15 false = true := hall { on := 15, ground := Ground.guard } (by simp) (by decide)
    have H16 := hI h16x
    have H17 := hI h17x
    have H15 := hI h15x
    clear hall hi h16x h17x h15x
    have e0 := HV.out.k16 H16.out
    subst e0
    have e1 := HV.out.k17 H17.out
    subst e1
    have e2 := HV.out.k15 H15.out
    subst e2
    cases q2
    case true =>
     refine wpOp_hid rfl fun K' HK => ?_
     go_simp
     cases HV.out
     refine HK.out _ _ ⟨by simp [HJ.out.sz], nb, ?_⟩
     iterate 37 apply Exists.intro
     refine ⟨rfl, ?_⟩
     constructor
     case k18 => exact fun _ => rfl
     case bx => exact HV.out.bx
     case sl => exact fun _ _ h => by cases h
     all_goals exact Um (by assumption)
    case false =>
     have hbb : Below w'.heap.size w' (w'.alloc (.cells #[.string yn, .string yd, .string zn, .string zd] 25)) := (Below.refl _ w').alloc (Nat.le_refl _) _
     refine wpOp_hid rfl fun K' HK => ?_
     go_simp
     cases HV.out
     refine HK.out _ _ ⟨by simp [HJ.out.sz], w'.heap.size, ?_⟩
     iterate 37 apply Exists.intro
     refine ⟨rfl, ?_⟩
     constructor
     case k18 => exact fun _ => rfl
     case bx => exact HV.out.bx.below hbb
     case sl => exact fun _ _ _ => heap_alloc_new _ _
     all_goals exact Um (by assumption)
   ·as_aux_lemma =>
    simp at ho
    subst ho
    have h18x : Ls.getD 18 false = true := hall { on := 18, ground := Ground.data } (by simp) (by decide)
    have h15x : Ls.getD 15 false = true := hall { on := 15, ground := Ground.chain } (by simp) (by decide)
    have H18 := hI h18x
    have H15 := hI h15x
    clear hall hi h18x h15x
    have e0 := HV.out.k18 H18.out
    subst e0
    have e1 := HV.out.k15 H15.out
    subst e1
    cases q2
    case true =>
     refine wpOp_hid rfl fun K' HK => ?_
     go_simp
     cases HV.out
     refine HK.out _ _ ⟨by simp [HJ.out.sz], nb, ?_⟩
     iterate 37 apply Exists.intro
     refine ⟨rfl, ?_⟩
     constructor
     case k19 => exact fun _ => rfl
     case bx => exact HV.out.bx
     case sl => exact fun _ h => (not_on h (getD_set_same hun)).elim
     all_goals exact Um (by assumption)
    case false =>
     refine wpOp_hid rfl fun K' HK => ?_
     go_simp
     refine (HLO.out _ _ (HV.out.sl H18.out hoff rfl)).mono ?_
     rintro e wn ⟨rfl, hbn⟩
     cases HV.out
     refine HK.out _ _ ⟨by simp [HJ.out.sz], nb, ?_⟩
     iterate 37 apply Exists.intro
     refine ⟨rfl, ?_⟩
     constructor
     case k19 => exact fun _ => rfl
     case bx => exact HV.out.bx.below hbn
     case sl => exact fun _ h => (not_on h (getD_set_same hun)).elim
     all_goals exact Um (by assumption)
   ·as_aux_lemma =>
    simp at ho
    subst ho
    have h15x : Ls.getD 15 false = true := hall { on := 15, ground := Ground.data } (by simp) (by decide)
    have h19x : Ls.getD 19 false = true := hall { on := 19, ground := Ground.data } (by simp) (by decide)
    have H15 := hI h15x
    have H19 := hI h19x
    clear hall hi h15x h19x
    have e0 := HV.out.k15 H15.out
    subst e0
    have e1 := HV.out.k19 H19.out
    subst e1
    cases q2
    case true =>
     refine wpOp_hid rfl fun K' HK => ?_
     go_simp
     cases HV.out
     refine HK.out _ _ ⟨by simp [HJ.out.sz], ?_⟩
     iterate 38 apply Exists.intro
     refine ⟨rfl, ?_⟩
     constructor
     case k20 => exact fun _ => congrArg Value.bool HQ3.out.symm
     case bx => exact HV.out.bx
     case sl => exact fun h0 h1 => HV.out.sl (getD_dn (by decide) h0) (getD_df (by decide) h1)
     all_goals exact Um (by assumption)
    case false =>
     refine wpOp_hid rfl fun K' HK => ?_
     go_simp
     cases HV.out
     refine HK.out _ _ ⟨by simp [HJ.out.sz], ?_⟩
     iterate 38 apply Exists.intro
     refine ⟨rfl, ?_⟩
     constructor
     case k20 => exact fun _ => congrArg Value.bool HQ3.out.symm
     case bx => exact HV.out.bx
     case sl => exact fun h0 h1 => HV.out.sl (getD_dn (by decide) h0) (getD_df (by decide) h1)
     all_goals exact Um (by assumption)
   ·as_aux_lemma =>
    simp at ho
    subst ho
    have h20x : Ls.getD 20 false = true := hall { on := 20, ground := Ground.data } (by simp) (by decide)
    have H20 := hI h20x
    clear hall hi h20x
    have e0 := HV.out.k20 H20.out
    subst e0
    refine wpOp_hid rfl fun K' HK => ?_
    go_simp
    cases HV.out
    refine HK.out _ _ ⟨by simp [HJ.out.sz], ?_⟩
    iterate 38 apply Exists.intro
    refine ⟨rfl, ?_⟩
    constructor
    case k21 => exact fun _ => rfl
    case bx => exact HV.out.bx
    case sl => exact fun h0 h1 => HV.out.sl (getD_dn (by decide) h0) (getD_df (by decide) h1)
    all_goals exact Um (by assumption)
   ·as_aux_lemma =>
    simp at ho
    subst ho
    have h21x : Ls.getD 21 false = true := hall { on := 21, ground := Ground.guard } (by simp) (by decide)
    have H21 := hI h21x
    clear hall hi h21x
    have e0 := HV.out.k21 H21.out
    subst e0
    cases q3
    case true =>
     refine wpOp_hid rfl fun K' HK => ?_
     go_simp
     cases HV.out
     refine HK.out _ _ ⟨by simp [HJ.out.sz], ?_⟩
     iterate 38 apply Exists.intro
     refine ⟨rfl, ?_⟩
     constructor
     case k22 => exact fun _ => rfl
     case bx => exact HV.out.bx
     case sl => exact fun h0 h1 => HV.out.sl (getD_dn (by decide) h0) (getD_df (by decide) h1)
     all_goals exact Um (by assumption)
    case false =>
     obtain ⟨u0, u1⟩ := cells2 (HV.out.bx.get 0 rfl)
     refine wpOp_hid rfl fun K' HK => ?_
     go_simp
     cases HV.out
     refine HK.out _ _ ⟨by simp [HJ.out.sz], ?_⟩
     iterate 38 apply Exists.intro
     refine ⟨rfl, ?_⟩
     constructor
     case k22 => exact fun _ => rfl
     case bx => exact HV.out.bx
     case sl => exact fun h0 h1 => HV.out.sl (getD_dn (by decide) h0) (getD_df (by decide) h1)
     all_goals exact Um (by assumption)
   ·as_aux_lemma =>
    simp at ho
    subst ho
    have h22x : Ls.getD 22 false = true := hall { on := 22, ground := Ground.data } (by simp) (by decide)
    have h21x : Ls.getD 21 false = true := hall { on := 21, ground := Ground.chain } (by simp) (by decide)
    have H22 := hI h22x
    have H21 := hI h21x
    clear hall hi h22x h21x
    have e0 := HV.out.k22 H22.out
    subst e0
    have e1 := HV.out.k21 H21.out
    subst e1
    cases q3
    case true =>
     refine wpOp_hid rfl fun K' HK => ?_
     go_simp
     cases HV.out
     refine HK.out _ _ ⟨by simp [HJ.out.sz], ?_⟩
     iterate 38 apply Exists.intro
     refine ⟨rfl, ?_⟩
     constructor
     case k23 => exact fun _ => rfl
     case bx => exact HV.out.bx
     case sl => exact fun h0 h1 => HV.out.sl (getD_dn (by decide) h0) (getD_df (by decide) h1)
     all_goals exact Um (by assumption)
    case false =>
     refine wpOp_hid rfl fun K' HK => ?_
     go_simp
     refine (HCKy.out rfl _ HV.out.bx).mono ?_
     rintro e wn ⟨rfl, hbn⟩
     cases HV.out
     refine HK.out _ _ ⟨by simp [HJ.out.sz], ?_⟩
     iterate 38 apply Exists.intro
     refine ⟨rfl, ?_⟩
     constructor
     case k23 => exact fun _ => rfl
     case bx => exact HV.out.bx.below hbn
     case sl => exact fun h i j => bkeep hbn (HV.out.sl (getD_dn (by decide) h) (getD_df (by decide) i) j)
     all_goals exact Um (by assumption)
   ·as_aux_lemma =>
    simp at ho
    subst ho
    have h23x : Ls.getD 23 false = true := hall { on := 23, ground := Ground.data } (by simp) (by decide)
    have h21x : Ls.getD 21 false = true := hall { on := 21, ground := Ground.guard } (by simp) (by decide)
    have H23 := hI h23x
    have H21 := hI h21x
    clear hall hi h23x h21x
    have e0 := HV.out.k23 H23.out
    subst e0
    have e1 := HV.out.k21 H21.out
    subst e1
    cases q3
    case true =>
     refine wpOp_hid rfl fun K' HK => ?_
     go_simp
     cases HV.out
     refine HK.out _ _ ⟨by simp [HJ.out.sz], ?_⟩
     iterate 38 apply Exists.intro
     refine ⟨rfl, ?_⟩
     constructor
     case k24 => exact fun _ => rfl
     case bx => exact HV.out.bx
     case sl => exact fun h0 h1 => HV.out.sl (getD_dn (by decide) h0) (getD_df (by decide) h1)
     all_goals exact Um (by assumption)
    case false =>
     have hcc := HCy.out
     refine wpOp_hid rfl fun K' HK => ?_
     go_simp
     cases HV.out
     refine HK.out _ _ ⟨by simp [HJ.out.sz], ?_⟩
     iterate 38 apply Exists.intro
     refine ⟨rfl, ?_⟩
     constructor
     case k24 => exact fun _ => rfl
     case bx => exact HV.out.bx
     case sl => exact fun h0 h1 => HV.out.sl (getD_dn (by decide) h0) (getD_df (by decide) h1)
     all_goals exact Um (by assumption)
   ·as_aux_lemma =>
    simp at ho
    subst ho
    have h21x : Ls.getD 21 false = true := hall { on := 21, ground := Ground.data } (by simp) (by decide)
    have h24x : Ls.getD 24 false = true := hall { on := 24, ground := Ground.data } (by simp) (by decide)
    have H21 := hI h21x
    have H24 := hI h24x
    clear hall hi h21x h24x
    have e0 := HV.out.k21 H21.out
    subst e0
    have e1 := HV.out.k24 H24.out
    subst e1
    cases q3
    case true =>
     refine wpOp_hid rfl fun K' HK => ?_
     go_simp
     cases HV.out
     refine HK.out _ _ ⟨by simp [HJ.out.sz], ?_⟩
     iterate 38 apply Exists.intro
     refine ⟨rfl, ?_⟩
     constructor
     case k25 => exact fun _ => congrArg Value.bool HQ4.out.symm
     case bx => exact HV.out.bx
     case sl => exact fun h0 h1 => HV.out.sl (getD_dn (by decide) h0) (getD_df (by decide) h1)
     all_goals exact Um (by assumption)
    case false =>
     refine wpOp_hid rfl fun K' HK => ?_
     go_simp
     cases HV.out
     refine HK.out _ _ ⟨by simp [HJ.out.sz], ?_⟩
     iterate 38 apply Exists.intro
     refine ⟨rfl, ?_⟩
     constructor
     case k25 => exact fun _ => congrArg Value.bool HQ4.out.symm
     case bx => exact HV.out.bx
     case sl => exact fun h0 h1 => HV.out.sl (getD_dn (by decide) h0) (getD_df (by decide) h1)
     all_goals exact Um (by assumption)
   ·as_aux_lemma =>
    simp at ho
    subst ho
    have h25x : Ls.getD 25 false = true := hall { on := 25, ground := Ground.data } (by simp) (by decide)
    have H25 := hI h25x
    clear hall hi h25x
    have e0 := HV.out.k25 H25.out
    subst e0
    refine wpOp_hid rfl fun K' HK => ?_
    go_simp
    cases HV.out
    refine HK.out _ _ ⟨by simp [HJ.out.sz], ?_⟩
    iterate 38 apply Exists.intro
    refine ⟨rfl, ?_⟩
    constructor
    case k26 => exact fun _ => rfl
    case bx => exact HV.out.bx
    case sl => exact fun h0 h1 => HV.out.sl (getD_dn (by decide) h0) (getD_df (by decide) h1)
    all_goals exact Um (by assumption)
   ·as_aux_lemma =>
    simp at ho
    subst ho
    have h26x : Ls.getD 26 false = true := hall { on := 26, ground := Ground.guard } (by simp) (by decide)
    have H26 := hI h26x
    clear hall hi h26x
    have e0 := HV.out.k26 H26.out
    subst e0
    cases q4
    case true =>
     refine wpOp_hid rfl fun K' HK => ?_
     go_simp
     cases HV.out
     refine HK.out _ _ ⟨by simp [HJ.out.sz], ?_⟩
     iterate 38 apply Exists.intro
     refine ⟨rfl, ?_⟩
     constructor
     case k27 => exact fun _ => rfl
     case bx => exact HV.out.bx
     case sl => exact fun h0 h1 => HV.out.sl (getD_dn (by decide) h0) (getD_df (by decide) h1)
     all_goals exact Um (by assumption)
    case false =>
     obtain ⟨u0, u1⟩ := cells2 (HV.out.bx.get 1 rfl)
     refine wpOp_hid rfl fun K' HK => ?_
     go_simp
     cases HV.out
     refine HK.out _ _ ⟨by simp [HJ.out.sz], ?_⟩
     iterate 38 apply Exists.intro
     refine ⟨rfl, ?_⟩
     constructor
     case k27 => exact fun _ => rfl
     case bx => exact HV.out.bx
     case sl => exact fun h0 h1 => HV.out.sl (getD_dn (by decide) h0) (getD_df (by decide) h1)
     all_goals exact Um (by assumption)
   ·as_aux_lemma =>
    simp at ho
    subst ho
    have h27x : Ls.getD 27 false = true := hall { on := 27, ground := Ground.data } (by simp) (by decide)
    have h26x : Ls.getD 26 false = true := hall { on := 26, ground := Ground.chain } (by simp) (by decide)
    have H27 := hI h27x
    have H26 := hI h26x
    clear hall hi h27x h26x
    have e0 := HV.out.k27 H27.out
    subst e0
    have e1 := HV.out.k26 H26.out
    subst e1
    cases q4
    case true =>
     refine wpOp_hid rfl fun K' HK => ?_
     go_simp
     cases HV.out
     refine HK.out _ _ ⟨by simp [HJ.out.sz], ?_⟩
     iterate 38 apply Exists.intro
     refine ⟨rfl, ?_⟩
     constructor
     case k28 => exact fun _ => rfl
     case bx => exact HV.out.bx
     case sl => exact fun h0 h1 => HV.out.sl (getD_dn (by decide) h0) (getD_df (by decide) h1)
     all_goals exact Um (by assumption)
    case false =>
     refine wpOp_hid rfl fun K' HK => ?_
     go_simp
     refine (HCKz.out rfl _ HV.out.bx).mono ?_
     rintro e wn ⟨rfl, hbn⟩
     cases HV.out
     refine HK.out _ _ ⟨by simp [HJ.out.sz], ?_⟩
     iterate 38 apply Exists.intro
     refine ⟨rfl, ?_⟩
     constructor
     case k28 => exact fun _ => rfl
     case bx => exact HV.out.bx.below hbn
     case sl => exact fun h i j => bkeep hbn (HV.out.sl (getD_dn (by decide) h) (getD_df (by decide) i) j)
     all_goals exact Um (by assumption)
   ·as_aux_lemma =>
    simp at ho
    subst ho
    have h28x : Ls.getD 28 false = true := hall { on := 28, ground := Ground.data } (by simp) (by decide)
    have h26x : Ls.getD 26 false = true := hall { on := 26, ground := Ground.guard } (by simp) (by decide)
    have H28 := hI h28x
    have H26 := hI h26x
    clear hall hi h28x h26x
    have e0 := HV.out.k28 H28.out
    subst e0
    have e1 := HV.out.k26 H26.out
    subst e1
    cases q4
    case true =>
     refine wpOp_hid rfl fun K' HK => ?_
     go_simp
     cases HV.out
     refine HK.out _ _ ⟨by simp [HJ.out.sz], ?_⟩
     iterate 38 apply Exists.intro
     refine ⟨rfl, ?_⟩
     constructor
     case k29 => exact fun _ => rfl
     case bx => exact HV.out.bx
     case sl => exact fun h0 h1 => HV.out.sl (getD_dn (by decide) h0) (getD_df (by decide) h1)
     all_goals exact Um (by assumption)
    case false =>
     have hcc := HCz.out
     refine wpOp_hid rfl fun K' HK => ?_
     go_simp
     cases HV.out
     refine HK.out _ _ ⟨by simp [HJ.out.sz], ?_⟩
     iterate 38 apply Exists.intro
     refine ⟨rfl, ?_⟩
     constructor
     case k29 => exact fun _ => rfl
     case bx => exact HV.out.bx
     case sl => exact fun h0 h1 => HV.out.sl (getD_dn (by decide) h0) (getD_df (by decide) h1)
     all_goals exact Um (by assumption)
   ·as_aux_lemma =>
    simp at ho
    subst ho
    have h26x : Ls.getD 26 false = true := hall { on := 26, ground := Ground.data } (by simp) (by decide)
    have h29x : Ls.getD 29 false = true := hall { on := 29, ground := Ground.data } (by simp) (by decide)
    have H26 := hI h26x
    have H29 := hI h29x
    clear hall hi h26x h29x
    have e0 := HV.out.k26 H26.out
    subst e0
    have e1 := HV.out.k29 H29.out
    subst e1
    cases q4
    case true =>
     refine wpOp_hid rfl fun K' HK => ?_
     go_simp
     cases HV.out
     refine HK.out _ _ ⟨by simp [HJ.out.sz], ?_⟩
     iterate 38 apply Exists.intro
     refine ⟨rfl, ?_⟩
     constructor
     case k30 => exact fun _ => congrArg Value.bool HQ5.out.symm
     case bx => exact HV.out.bx
     case sl => exact fun h0 h1 => HV.out.sl (getD_dn (by decide) h0) (getD_df (by decide) h1)
     all_goals exact Um (by assumption)
    case false =>
     refine wpOp_hid rfl fun K' HK => ?_
     go_simp
     cases HV.out
     refine HK.out _ _ ⟨by simp [HJ.out.sz], ?_⟩
     iterate 38 apply Exists.intro
     refine ⟨rfl, ?_⟩
     constructor
     case k30 => exact fun _ => congrArg Value.bool HQ5.out.symm
     case bx => exact HV.out.bx
     case sl => exact fun h0 h1 => HV.out.sl (getD_dn (by decide) h0) (getD_df (by decide) h1)
     all_goals exact Um (by assumption)
   ·as_aux_lemma =>
    simp at ho
    subst ho
    have h30x : Ls.getD 30 false = true := hall { on := 30, ground := Ground.data } (by simp) (by decide)
    have H30 := hI h30x
    clear hall hi h30x
    have e0 := HV.out.k30 H30.out
    subst e0
    refine wpOp_hid rfl fun K' HK => ?_
    go_simp
    cases HV.out
    refine HK.out _ _ ⟨by simp [HJ.out.sz], ?_⟩
    iterate 38 apply Exists.intro
    refine ⟨rfl, ?_⟩
    constructor
    case k31 => exact fun _ => rfl
    case bx => exact HV.out.bx
    case sl => exact fun h0 h1 => HV.out.sl (getD_dn (by decide) h0) (getD_df (by decide) h1)
    all_goals exact Um (by assumption)
   ·as_aux_lemma =>
    simp at ho
    subst ho
    have h31x : Ls.getD 31 false = true := hall { on := 31, ground := Ground.guard } (by simp) (by decide)
    have H31 := hI h31x
    clear hall hi h31x
    have e0 := HV.out.k31 H31.out
    subst e0
    cases q5
    case true =>
     refine wpOp_hid rfl fun K' HK => ?_
     go_simp
     cases HV.out
     refine HK.out _ _ ⟨by simp [HJ.out.sz], ?_⟩
     iterate 38 apply Exists.intro
     refine ⟨rfl, ?_⟩
     constructor
     case k32 => exact fun _ => rfl
     case bx => exact HV.out.bx
     case sl => exact fun h0 h1 => HV.out.sl (getD_dn (by decide) h0) (getD_df (by decide) h1)
     all_goals exact Um (by assumption)
    case false =>
     obtain ⟨u0, u1⟩ := cells2 (HV.out.bx.get 0 rfl)
     refine wpOp_hid rfl fun K' HK => ?_
     go_simp
     cases HV.out
     refine HK.out _ _ ⟨by simp [HJ.out.sz], ?_⟩
     iterate 38 apply Exists.intro
     refine ⟨rfl, ?_⟩
     constructor
     case k32 => exact fun _ => rfl
     case bx => exact HV.out.bx
     case sl => exact fun h0 h1 => HV.out.sl (getD_dn (by decide) h0) (getD_df (by decide) h1)
     all_goals exact Um (by assumption)
   ·as_aux_lemma =>
    simp at ho
    subst ho
    have h31x : Ls.getD 31 false = true := hall { on := 31, ground := Ground.chain } (by simp) (by decide)
    have H31 := hI h31x
    clear hall hi h31x
    have e0 := HV.out.k31 H31.out
    subst e0
    cases q5
    case true =>
     refine wpOp_hid rfl fun K' HK => ?_
     go_simp
     cases HV.out
     refine HK.out _ _ ⟨by simp [HJ.out.sz], ?_⟩
     iterate 38 apply Exists.intro
     refine ⟨rfl, ?_⟩
     constructor
     case k33 => exact fun _ => rfl
     case bx => exact HV.out.bx
     case sl => exact fun h0 h1 => HV.out.sl (getD_dn (by decide) h0) (getD_df (by decide) h1)
     all_goals exact Um (by assumption)
    case false =>
     refine wpOp_hid rfl fun K' HK => ?_
     go_simp
     refine (HRM.out _ HV.out.bx).mono ?_
     rintro e wn ⟨rfl, hbn⟩
     cases HV.out
     refine HK.out _ _ ⟨by simp [HJ.out.sz], ?_⟩
     iterate 38 apply Exists.intro
     refine ⟨rfl, ?_⟩
     constructor
     case k33 => exact fun _ => rfl
     case bx => exact HV.out.bx.below hbn
     case sl => exact fun h i j => bkeep hbn (HV.out.sl (getD_dn (by decide) h) (getD_df (by decide) i) j)
     all_goals exact Um (by assumption)
   ·as_aux_lemma =>
    simp at ho
    subst ho
    have h32x : Ls.getD 32 false = true := hall { on := 32, ground := Ground.data } (by simp) (by decide)
    have h33x : Ls.getD 33 false = true := hall { on := 33, ground := Ground.data } (by simp) (by decide)
    have h31x : Ls.getD 31 false = true := hall { on := 31, ground := Ground.guard } (by simp) (by decide)
    have H32 := hI h32x
    have H33 := hI h33x
    have H31 := hI h31x
    clear hall hi h32x h33x h31x
    have e0 := HV.out.k32 H32.out
    subst e0
    have e1 := HV.out.k33 H33.out
    subst e1
    have e2 := HV.out.k31 H31.out
    subst e2
    cases q5
    case true =>
     refine wpOp_hid rfl fun K' HK => ?_
     go_simp
     cases HV.out
     refine HK.out _ _ ⟨by simp [HJ.out.sz], ?_⟩
     iterate 38 apply Exists.intro
     refine ⟨rfl, ?_⟩
     constructor
     case k34 => exact fun _ => rfl
     case bx => exact HV.out.bx
     case sl => exact fun h0 h1 => HV.out.sl (getD_dn (by decide) h0) (getD_df (by decide) h1)
     all_goals exact Um (by assumption)
    case false =>
     refine wpOp_hid rfl fun K' HK => ?_
     go_simp
     refine (HCM.out rfl _ HV.out.bx).mono ?_
     rintro e wn ⟨rfl, hbn⟩
     cases HV.out
     refine HK.out _ _ ⟨by simp [HJ.out.sz], ?_⟩
     iterate 38 apply Exists.intro
     refine ⟨rfl, ?_⟩
     constructor
     case k34 => exact fun _ => rfl
     case bx => exact HV.out.bx.below hbn
     case sl => exact fun h i j => bkeep hbn (HV.out.sl (getD_dn (by decide) h) (getD_df (by decide) i) j)
     all_goals exact Um (by assumption)
   ·as_aux_lemma =>
    simp at ho
    subst ho
    have h34x : Ls.getD 34 false = true := hall { on := 34, ground := Ground.data } (by simp) (by decide)
    have h31x : Ls.getD 31 false = true := hall { on := 31, ground := Ground.guard } (by simp) (by decide)
    have H34 := hI h34x
    have H31 := hI h31x
    clear hall hi h34x h31x
    have e0 := HV.out.k34 H34.out
    subst e0
    have e1 := HV.out.k31 H31.out
    subst e1
    cases q5
    case true =>
     refine wpOp_hid rfl fun K' HK => ?_
     go_simp
     cases HV.out
     refine HK.out _ _ ⟨by simp [HJ.out.sz], ?_⟩
     iterate 38 apply Exists.intro
     refine ⟨rfl, ?_⟩
     constructor
     case k35 => exact fun _ => rfl
     case bx => exact HV.out.bx
     case sl => exact fun h0 h1 => HV.out.sl (getD_dn (by decide) h0) (getD_df (by decide) h1)
     all_goals exact Um (by assumption)
    case false =>
     have hzb := HZB.out
     refine wpOp_hid rfl fun K' HK => ?_
     go_simp
     cases HV.out
     refine HK.out _ _ ⟨by simp [HJ.out.sz], ?_⟩
     iterate 38 apply Exists.intro
     refine ⟨rfl, ?_⟩
     constructor
     case k35 => exact fun _ => rfl
     case bx => exact HV.out.bx
     case sl => exact fun h0 h1 => HV.out.sl (getD_dn (by decide) h0) (getD_df (by decide) h1)
     all_goals exact Um (by assumption)
   ·as_aux_lemma =>
    simp at ho
    subst ho
    have h31x : Ls.getD 31 false = true := hall { on := 31, ground := Ground.data } (by simp) (by decide)
    have h35x : Ls.getD 35 false = true := hall { on := 35, ground := Ground.data } (by simp) (by decide)
    have H31 := hI h31x
    have H35 := hI h35x
    clear hall hi h31x h35x
    have e0 := HV.out.k31 H31.out
    subst e0
    have e1 := HV.out.k35 H35.out
    subst e1
    cases q5
    case true =>
     refine wpOp_hid rfl fun K' HK => ?_
     go_simp
     cases HV.out
     refine HK.out _ _ ⟨by simp [HJ.out.sz], ?_⟩
     iterate 38 apply Exists.intro
     refine ⟨rfl, ?_⟩
     constructor
     case k36 => exact fun _ => congrArg Value.bool HQ6.out.symm
     case bx => exact HV.out.bx
     case sl => exact fun h0 h1 => HV.out.sl (getD_dn (by decide) h0) (getD_df (by decide) h1)
     all_goals exact Um (by assumption)
    case false =>
     refine wpOp_hid rfl fun K' HK => ?_
     go_simp
     cases HV.out
     refine HK.out _ _ ⟨by simp [HJ.out.sz], ?_⟩
     iterate 38 apply Exists.intro
     refine ⟨rfl, ?_⟩
     constructor
     case k36 => exact fun _ => congrArg Value.bool HQ6.out.symm
     case bx => exact HV.out.bx
     case sl => exact fun h0 h1 => HV.out.sl (getD_dn (by decide) h0) (getD_df (by decide) h1)
     all_goals exact Um (by assumption)
 case rest =>
  obtain ⟨rfl, hg1⟩ := hcut
  have HG1 := hI hg1
  clear hg1 HFI HLO HCKy HCKz HRM HCM HG0 hW0 HQ1 HQ2 HQ3 HQ4 HQ5 HQ6 HZB HCy HCz HB1 HB2 HB2'
  cases q6
  case true =>
   as_aux_lemma =>
   clear HOK
   go_wp2_with fail
   refine (awake11_any _ (HT.out.below HG1.out.1)).mono ?_
   rintro e wz ⟨rfl, xz⟩
   have HBZ := hI (HG1.out.below xz).1
   clear xz
   go_wp2_with fail
   go_ret
   exact ⟨rfl, HBZ.out⟩
  have hok := HOK.out rfl
  clear HOK
  obtain ⟨hfine, hd1, hd2, h13, hcy, hcz, hyp⟩ := hok
  obtain ⟨htiny, hbd, hcut⟩ := hfine
  have hsy := h13 (yn, yd) (by simp)
  have hsz := h13 (zn, zd) (by simp)
  simp only at hsy hsz
  clear h13
  have hfew : Few i := by show (cuts i.issued i.matures i.months).length ≤ 399; omega
  have hl15 : (perL i).length ≤ 15 := by
   have := pers_len i.issued i.matures i.months
   show (pers i.issued i.matures i.months).length ≤ 15
   omega
  have hdb : BdI (dbl i) := dbl_ok hbd htiny.2.2.2.1 htiny.2.2.2.2.1
  have hdf : Few (dbl i) := hfew
  obtain ⟨qf, hqf⟩ : ∃ q : Rat, fv i.fn i.fd = q := ⟨_, rfl⟩
  obtain ⟨qy, hqy⟩ : ∃ q : Rat, fv yn yd = q := ⟨_, rfl⟩
  obtain ⟨qz, hqz⟩ : ∃ q : Rat, fv zn zd = q := ⟨_, rfl⟩
  obtain ⟨qt, hqt⟩ : ∃ q : Rat, (2 : Rat) = q := ⟨_, rfl⟩
  obtain ⟨qd, hqd⟩ : ∃ q : Rat, qf * qt = q := ⟨_, rfl⟩
  have hqd2 : fv i.fn i.fd * 2 = qd := by rw [hqf, hqt]; exact hqd
  have hjc : (dbl i).cells = #[.string i.id, .int .i64 i.kind, .string i.cur, .int .i64 i.places, .int .i64 i.issued, .int .i64 i.matures, .string (I qd.num), .string (dn qd), .string i.cn, .string i.cd, .int .i64 i.months, .int .i64 i.count, .string i.other, .string i.sn, .string i.sd] := by rw [← hqd2]; rfl
  have hf := hbd.fQ
  unfold CanQ at hf
  rw [hqf] at hf
  have hy := hcy
  unfold CanQ at hy
  rw [hqy] at hy
  have hz := hcz
  unfold CanQ at hz
  rw [hqz] at hz
  have BF : BdQ qf 20 := by rw [← hqf]; exact fv_bd _ _ hbd.f1 (by have := hbd.f2; omega)
  have BY : BdQ qy 60 := by rw [← hqy]; exact fv_bd _ _ (by omega) (by omega)
  have BZ : BdQ qz 60 := by rw [← hqz]; exact fv_bd _ _ (by omega) (by omega)
  have BT : BdQ qt 1 := by rw [← hqt]; exact BdQ.int (z := 2) (by decide) (by omega)
  have hod := life_ok hbd hd1 hd2
  obtain ⟨qa, hqa⟩ : ∃ q : Rat, accQ i d = q := ⟨_, rfl⟩
  obtain ⟨qb, hqb⟩ : ∃ q : Rat, accQ (dbl i) d = q := ⟨_, rfl⟩
  obtain ⟨qp, hqp⟩ : ∃ q : Rat, (if d = i.matures then 0 else presQ i d qy) = q := ⟨_, rfl⟩
  obtain ⟨qq, hqq⟩ : ∃ q : Rat, (if d = i.matures then 0 else presQ (dbl i) d qy) = q := ⟨_, rfl⟩
  obtain ⟨qx, hqx⟩ : ∃ q : Rat, qz + qa = q := ⟨_, rfl⟩
  have e1 : qa * qt = qb := by rw [← hqa, ← hqb, ← hqt]; exact (dbl_acc i d).symm
  have e2 : qp * qt = qq := by
   rw [← hqp, ← hqq, ← hqt]
   by_cases h : d = i.matures
   ·rw [if_pos h, if_pos h, Rat.zero_mul]
   ·rw [if_neg h, if_neg h, dbl_pres]
  have e3 : qx - qa = qz := by rw [← hqx]; grind
  have BA : BdQ qa 59 := hqa ▸ accQ_bd hbd hod
  have BP : BdQ qp 3000 := by rw [← hqp]; exact presQ_bd hbd hl15 hd1 hd2 BY (by rw [← hqy]; exact hyp)
  have BX' : BdQ qx 3000 := by rw [← hqx]; exact (BdQ.add BZ BA).mono (by omega)
  obtain ⟨Ls, hL⟩ : ∃ Ls, flowsL i = Ls := ⟨_, rfl⟩
  obtain ⟨F, hF⟩ : ∃ F, Ls.length = F := ⟨_, rfl⟩
  obtain ⟨L2, hL2⟩ : ∃ L2, flowsL (dbl i) = L2 := ⟨_, rfl⟩
  have hL2' : L2 = Ls.map fun f => (f.1, f.2 * qt) := by rw [← hL2, ← hL, ← hqt]; exact dbl_flows i
  have hF2 : L2.length = F := by rw [hL2', List.length_map, hF]
  have hF15 : F ≤ 15 := by have := flows_len i; rw [hL, hF] at this; omega
  have HFB : Hid (∀ x ∈ Ls.map Prod.snd, BdQ x 80) := hL ▸ flows_bd hbd
  have H2 : Hid (∀ W, Tabs W → Calls Tryz.prog 10 #[.int .i64 2, .int .i64 1] W fun e w' => e = .returned (.agg #[.string (I qt.num), .string (dn qt)]) ∧ Below W.heap.size W w') := fun W hW => by
   exact ratio11_to 2 1 qt (by rw [← hqt]; kernel_rfl) (by omega) (by omega) (by omega) (by omega) (by omega) W hW
  have HMF : Hid (∀ W, Tabs W → Calls Tryz.prog 12 #[.agg #[.string i.fn, .string i.fd], .agg #[.string (I qt.num), .string (dn qt)]] W fun e w' => e = .returned (.agg #[.string (I qd.num), .string (dn qd)]) ∧ Below W.heap.size W w') := fun W hW => by
   have h := fMulQ BF BT (by omega) (by omega) W hW
   rw [hqd] at h
   unfold fenc at h
   rw [← hf.1, ← hf.2] at h
   exact h
  have HFL : Hid (∀ W, Tabs W → Calls Tryz.prog 13 #[.agg #[.string i.id, .int .i64 i.kind, .string i.cur, .int .i64 i.places, .int .i64 i.issued, .int .i64 i.matures, .string i.fn, .string i.fd, .string i.cn, .string i.cd, .int .i64 i.months, .int .i64 i.count, .string i.other, .string i.sn, .string i.sd]] W fun e w' => (∃ g c sp, e = .returned (.tuple #[.slice (some ⟨g, 0, none⟩) F c, .int .i64 0]) ∧ F ≤ c ∧ W.heap.size ≤ g ∧ w'.heap[g]? = some (.cells (flV Ls ++ sp).toArray 43 (0, 0))) ∧ Below W.heap.size W w') := fun W hW => by
   have h := bFlows_few hbd hfew W hW
   rw [hL, hF] at h
   exact h
  have HFL2 : Hid (∀ W, Tabs W → Calls Tryz.prog 13 #[.agg #[.string i.id, .int .i64 i.kind, .string i.cur, .int .i64 i.places, .int .i64 i.issued, .int .i64 i.matures, .string (I qd.num), .string (dn qd), .string i.cn, .string i.cd, .int .i64 i.months, .int .i64 i.count, .string i.other, .string i.sn, .string i.sd]] W fun e w' => (∃ g c sp, e = .returned (.tuple #[.slice (some ⟨g, 0, none⟩) F c, .int .i64 0]) ∧ F ≤ c ∧ W.heap.size ≤ g ∧ w'.heap[g]? = some (.cells (flV L2 ++ sp).toArray 43 (0, 0))) ∧ Below W.heap.size W w') := fun W hW => by
   have h := bFlows_few hdb hdf W hW
   unfold Inst.enc at h
   rw [hL2, hF2, hjc] at h
   exact h
  have HA1 : Hid (∀ W, Tabs W → Calls Tryz.prog 14 #[.agg #[.string i.id, .int .i64 i.kind, .string i.cur, .int .i64 i.places, .int .i64 i.issued, .int .i64 i.matures, .string i.fn, .string i.fd, .string i.cn, .string i.cd, .int .i64 i.months, .int .i64 i.count, .string i.other, .string i.sn, .string i.sd], .int .i64 d] W fun e w' => e = .returned (.tuple #[.agg #[.string (I qa.num), .string (dn qa)], .int .i64 0]) ∧ Below W.heap.size W w') := fun W hW => by
   have h := bAcc_few hbd hfew hd1 hd2 W hW
   rw [hqa] at h
   exact h
  have HA2 : Hid (∀ W, Tabs W → Calls Tryz.prog 14 #[.agg #[.string i.id, .int .i64 i.kind, .string i.cur, .int .i64 i.places, .int .i64 i.issued, .int .i64 i.matures, .string (I qd.num), .string (dn qd), .string i.cn, .string i.cd, .int .i64 i.months, .int .i64 i.count, .string i.other, .string i.sn, .string i.sd], .int .i64 d] W fun e w' => e = .returned (.tuple #[.agg #[.string (I qb.num), .string (dn qb)], .int .i64 0]) ∧ Below W.heap.size W w') := fun W hW => by
   have h := bAcc_few hdb hdf hd1 hd2 W hW
   unfold Inst.enc at h
   rw [hjc] at h
   rw [hqb] at h
   exact h
  have HP1 : Hid (∀ W, Tabs W → Calls Tryz.prog 15 #[.agg #[.string i.id, .int .i64 i.kind, .string i.cur, .int .i64 i.places, .int .i64 i.issued, .int .i64 i.matures, .string i.fn, .string i.fd, .string i.cn, .string i.cd, .int .i64 i.months, .int .i64 i.count, .string i.other, .string i.sn, .string i.sd], .int .i64 d, .agg #[.string (I qy.num), .string (dn qy)]] W fun e w' => e = .returned (.tuple #[.agg #[.string (I qp.num), .string (dn qp)], .int .i64 0]) ∧ Below W.heap.size W w') := fun W hW => by
   have h := bPres_few hbd hfew hd1 hd2 yn yd (by omega) (by omega) hcy hyp W hW
   rw [hqy, hqp] at h
   unfold fenc at h
   rw [hy.1, hy.2] at h
   exact h
  have HP2 : Hid (∀ W, Tabs W → Calls Tryz.prog 15 #[.agg #[.string i.id, .int .i64 i.kind, .string i.cur, .int .i64 i.places, .int .i64 i.issued, .int .i64 i.matures, .string (I qd.num), .string (dn qd), .string i.cn, .string i.cd, .int .i64 i.months, .int .i64 i.count, .string i.other, .string i.sn, .string i.sd], .int .i64 d, .agg #[.string (I qy.num), .string (dn qy)]] W fun e w' => e = .returned (.tuple #[.agg #[.string (I qq.num), .string (dn qq)], .int .i64 0]) ∧ Below W.heap.size W w') := fun W hW => by
   have h := bPres_few hdb hdf hd1 hd2 yn yd (by omega) (by omega) hcy hyp W hW
   unfold Inst.enc at h
   rw [hjc] at h
   rw [hqy, show (if d = (dbl i).matures then 0 else presQ (dbl i) d qy) = qq from hqq] at h
   unfold fenc at h
   rw [hy.1, hy.2] at h
   exact h
  have HDI : Hid (∀ W, Tabs W → Calls Tryz.prog 16 #[.agg #[.string i.id, .int .i64 i.kind, .string i.cur, .int .i64 i.places, .int .i64 i.issued, .int .i64 i.matures, .string i.fn, .string i.fd, .string i.cn, .string i.cd, .int .i64 i.months, .int .i64 i.count, .string i.other, .string i.sn, .string i.sd], .int .i64 d, .agg #[.string (I qz.num), .string (dn qz)]] W fun e w' => e = .returned (.tuple #[.agg #[.string (I qx.num), .string (dn qx)], .int .i64 0]) ∧ Below W.heap.size W w') := fun W hW => by
   have h := bDirty_few hbd hfew hd1 hd2 zn zd (by omega) (by omega) (by rw [hqz]; exact BZ.mono (by omega)) hcz W hW
   rw [hqz, hqa, hqx] at h
   unfold fenc at h
   rw [hz.1, hz.2] at h
   exact h
  have HM1 : Hid (∀ W, Tabs W → Calls Tryz.prog 12 #[.agg #[.string (I qa.num), .string (dn qa)], .agg #[.string (I qt.num), .string (dn qt)]] W fun e w' => e = .returned (.agg #[.string (I qb.num), .string (dn qb)]) ∧ Below W.heap.size W w') := fun W hW => by
   have h := fMulQ BA BT (by omega) (by omega) W hW
   rw [e1] at h; exact h
  have HM2 : Hid (∀ W, Tabs W → Calls Tryz.prog 12 #[.agg #[.string (I qp.num), .string (dn qp)], .agg #[.string (I qt.num), .string (dn qt)]] W fun e w' => e = .returned (.agg #[.string (I qq.num), .string (dn qq)]) ∧ Below W.heap.size W w') := fun W hW => by
   have h := fMulQ BP BT (by omega) (by omega) W hW
   rw [e2] at h; exact h
  have HSB : Hid (∀ W, Tabs W → Calls Tryz.prog 17 #[.agg #[.string (I qx.num), .string (dn qx)], .agg #[.string (I qa.num), .string (dn qa)]] W fun e w' => e = .returned (.agg #[.string (I qz.num), .string (dn qz)]) ∧ Below W.heap.size W w') := fun W hW => by
   have h := fSubQ BX' BA (by omega) (by omega) W hW
   rw [e3] at h; exact h
  have HAW : Hid (∀ W, Tabs W → Calls Tryz.prog 11 #[] W fun e w' => e = .returned (.bool true) ∧ Below W.heap.size W w') := fun W hW => by
   exact awake11_any W hW
  have HBT := hI BT
  have HG2 : Hid (BX w [(w.heap.size + 1, fobj qy), (w.heap.size + 2, fobj qz), (w.heap.size, Obj.cells i.cells 27 (0, 0))] wc) := ⟨HG1.out.1, fun x hx => by
   rcases List.mem_cons.1 hx with rfl | hx
   ·have h := HG1.out.get 0 rfl
    rw [hy.1, hy.2] at h
    exact h
   ·rcases List.mem_cons.1 hx with rfl | hx
    ·have h := HG1.out.get 1 rfl
     rw [hz.1, hz.2] at h
     exact h
    ·rcases List.mem_cons.1 hx with rfl | hx
     ·exact HG1.out.get 2 rfl
     ·cases hx⟩
  have HLL : Hid (Ls.length = F) := hF
  have HL2 : Hid (∀ (k : Nat) (x : Int × Rat), Ls[k]? = some x → L2[k]? = some (x.1, x.2 * qt)) := fun k x hx => by rw [hL2', List.getElem?_map, hx]; rfl
  clear htiny hbd hcut hsy hsz hfew hl15 hdb hdf hqf hqy hqz hqt hqd hqd2 hjc hf hy hz BF BY BZ BT hod hqa hqb hqp hqq hqx e1 e2 e3 BA BP BX' hL hF hL2 hL2' hF2 hcy hcz hyp HG1 hd1 hd2
  go_wp2_with fail
  refine (H2.out _ (HT.out.below HG2.out.1)).mono ?_
  rintro e w3 ⟨rfl, x3⟩
  have HG3 := hI (HG2.out.below x3)
  clear x3 HG2 H2
  obtain ⟨W3, hW3⟩ : ∃ W, w3.alloc (.cells #[.string (I qt.num), .string (dn qt)] 25) = W := ⟨_, rfl⟩
  have HG4 : Hid (BX w ((w3.heap.size, fobj qt) :: [(w.heap.size + 1, fobj qy), (w.heap.size + 2, fobj qz), (w.heap.size, Obj.cells i.cells 27 (0, 0))]) W3) := by show BX _ _ _; rw [← hW3]; exact HG3.out.push _
  obtain ⟨W4, hW4⟩ : ∃ W, W3.alloc (.cells #[.string i.id, .int .i64 i.kind, .string i.cur, .int .i64 i.places, .int .i64 i.issued, .int .i64 i.matures, .string i.fn, .string i.fd, .string i.cn, .string i.cd, .int .i64 i.months, .int .i64 i.count, .string i.other, .string i.sn, .string i.sd] 27) = W := ⟨_, rfl⟩
  have HG5 : Hid (BX w ((W3.heap.size, Obj.cells i.cells 27 (0, 0)) :: (w3.heap.size, fobj qt) :: [(w.heap.size + 1, fobj qy), (w.heap.size + 2, fobj qz), (w.heap.size, Obj.cells i.cells 27 (0, 0))]) W4) := by show BX _ _ _; rw [← hW4]; exact HG4.out.push _
  have c0 := Lib.cell_of_heap (HG4.out.get 3 rfl) 0
  have c1 := Lib.cell_of_heap (HG4.out.get 3 rfl) 1
  have c2 := Lib.cell_of_heap (HG4.out.get 3 rfl) 2
  have c3 := Lib.cell_of_heap (HG4.out.get 3 rfl) 3
  have c4 := Lib.cell_of_heap (HG4.out.get 3 rfl) 4
  have c5 := Lib.cell_of_heap (HG4.out.get 3 rfl) 5
  have c6 := Lib.cell_of_heap (HG4.out.get 3 rfl) 6
  have c7 := Lib.cell_of_heap (HG4.out.get 3 rfl) 7
  have c8 := Lib.cell_of_heap (HG4.out.get 3 rfl) 8
  have c9 := Lib.cell_of_heap (HG4.out.get 3 rfl) 9
  have c10 := Lib.cell_of_heap (HG4.out.get 3 rfl) 10
  have c11 := Lib.cell_of_heap (HG4.out.get 3 rfl) 11
  have c12 := Lib.cell_of_heap (HG4.out.get 3 rfl) 12
  have c13 := Lib.cell_of_heap (HG4.out.get 3 rfl) 13
  have c14 := Lib.cell_of_heap (HG4.out.get 3 rfl) 14
  simp [Inst.cells] at c0 c1 c2 c3 c4 c5 c6 c7 c8 c9 c10 c11 c12 c13 c14
  have i6 := Lib.cell_of_heap (HG5.out.get 4 rfl) 6
  have i7 := Lib.cell_of_heap (HG5.out.get 4 rfl) 7
  simp [Inst.cells] at i6 i7
  have t0 := Lib.cell_of_heap (HG5.out.get 1 rfl) 0
  have t1 := Lib.cell_of_heap (HG5.out.get 1 rfl) 1
  simp at t0 t1
  go_wp2_with fail
  refine (HMF.out _ (HT.out.below HG5.out.1)).mono ?_
  rintro e w5 ⟨rfl, x5⟩
  generalize hw3 : w3.heap.size = n9' at HG5 ⊢
  generalize hW3s : W3.heap.size = n10 at HG5 ⊢
  have HNN : Hid (n9' < n10 ∧ w.heap.size + 2 < n9') := ⟨by rw [← hW3s, ← hw3, ← hW3]; simp, by rw [← hw3]; exact HG3.out.lt 1 rfl⟩
  have HG6 := hI (HG5.out.below x5)
  clear x5 HG3 HG4 HG5 HMF hW3 hW4 hw3 hW3s i6 i7 t0 t1 c0 c1 c2 c3 c4 c5 c6 c7 c8 c9 c10 c11 c12 c13 c14
  have m6 := Lib.cell_of_heap (HG6.out.get 0 rfl) 6
  have m7 := Lib.cell_of_heap (HG6.out.get 0 rfl) 7
  have f6 := Lib.frozen_of_heap (HG6.out.get 0 rfl) 6
  have f7 := Lib.frozen_of_heap (HG6.out.get 0 rfl) 7
  simp [Inst.cells] at m6 m7
  as_aux_lemma =>
  go_upto_region 6 with fail
  obtain ⟨W6, hW6⟩ : ∃ W, (w5.setCell ⟨n10, 6, none⟩ (.string (I qd.num))).setCell ⟨n10, 7, none⟩ (.string (dn qd)) = W := ⟨_, rfl⟩
  have HG7 : Hid (BX w [(n10, Obj.cells #[.string i.id, .int .i64 i.kind, .string i.cur, .int .i64 i.places, .int .i64 i.issued, .int .i64 i.matures, .string (I qd.num), .string (dn qd), .string i.cn, .string i.cd, .int .i64 i.months, .int .i64 i.count, .string i.other, .string i.sn, .string i.sd] 27 (0, 0)), (n9', fobj qt), (w.heap.size + 1, fobj qy), (w.heap.size + 2, fobj qz), (w.heap.size, Obj.cells i.cells 27 (0, 0))] W6) := by
   have hb : w.heap.size ≤ n10 := by have := HNN.out; omega
   have hk := HG6.out.get 0 rfl
   have hfar : ∀ k, k ≠ n10 → W6.heap[k]? = w5.heap[k]? := fun k hk => by rw [← hW6]; simp [World.setCell, Array.getElem?_modify, Ne.symm hk]
   refine ⟨?_, fun x hx => ?_⟩
   ·rw [← hW6]
    exact (HG6.out.1.setCell (p := ⟨n10, 6, none⟩) hb _).setCell (p := ⟨n10, 7, none⟩) hb _
   ·rcases List.mem_cons.1 hx with rfl | hx
    ·rw [← hW6]
     simp [World.setCell, Array.getElem?_modify, hk, Inst.cells]
    ·have hne : x.1 ≠ n10 := by
      have := HNN.out
      rcases List.mem_cons.1 hx with rfl | hx
      ·show n9' ≠ n10; omega
      ·rcases List.mem_cons.1 hx with rfl | hx
       ·show w.heap.size + 1 ≠ n10; omega
       ·rcases List.mem_cons.1 hx with rfl | hx
        ·show w.heap.size + 2 ≠ n10; omega
        ·rcases List.mem_cons.1 hx with rfl | hx
         ·show w.heap.size ≠ n10; omega
         ·cases hx
     exact (hfar _ hne).trans (HG6.out.2 x (List.mem_cons_of_mem _ hx))
  rw [hW6]
  clear hW6 HG6 HNN m6 m7 f6 f7
  have c0 := Lib.cell_of_heap (HG7.out.get 4 rfl) 0
  have c1 := Lib.cell_of_heap (HG7.out.get 4 rfl) 1
  have c2 := Lib.cell_of_heap (HG7.out.get 4 rfl) 2
  have c3 := Lib.cell_of_heap (HG7.out.get 4 rfl) 3
  have c4 := Lib.cell_of_heap (HG7.out.get 4 rfl) 4
  have c5 := Lib.cell_of_heap (HG7.out.get 4 rfl) 5
  have c6 := Lib.cell_of_heap (HG7.out.get 4 rfl) 6
  have c7 := Lib.cell_of_heap (HG7.out.get 4 rfl) 7
  have c8 := Lib.cell_of_heap (HG7.out.get 4 rfl) 8
  have c9 := Lib.cell_of_heap (HG7.out.get 4 rfl) 9
  have c10 := Lib.cell_of_heap (HG7.out.get 4 rfl) 10
  have c11 := Lib.cell_of_heap (HG7.out.get 4 rfl) 11
  have c12 := Lib.cell_of_heap (HG7.out.get 4 rfl) 12
  have c13 := Lib.cell_of_heap (HG7.out.get 4 rfl) 13
  have c14 := Lib.cell_of_heap (HG7.out.get 4 rfl) 14
  simp [Inst.cells] at c0 c1 c2 c3 c4 c5 c6 c7 c8 c9 c10 c11 c12 c13 c14
  as_aux_lemma =>
  go_wp2_with fail
  refine (HFL.out _ (HT.out.below HG7.out.1)).mono ?_
  rintro e w8 ⟨⟨gl, cl, sp, rfl, hcl, hgb, hgr⟩, x8⟩
  obtain ⟨ol, hol⟩ : ∃ ob : Obj, ob = .cells (flV Ls ++ sp).toArray 43 (0, 0) := ⟨_, rfl⟩
  rw [← hol] at hgr
  have HOL := hI hol
  have HG8 : Hid (BX w [(gl, ol), (n10, Obj.cells #[.string i.id, .int .i64 i.kind, .string i.cur, .int .i64 i.places, .int .i64 i.issued, .int .i64 i.matures, .string (I qd.num), .string (dn qd), .string i.cn, .string i.cd, .int .i64 i.months, .int .i64 i.count, .string i.other, .string i.sn, .string i.sd] 27 (0, 0)), (n9', fobj qt), (w.heap.size + 1, fobj qy), (w.heap.size + 2, fobj qz), (w.heap.size, Obj.cells i.cells 27 (0, 0))] w8) := ⟨(HG7.out.below x8).1, fun x hx => by
   rcases List.mem_cons.1 hx with rfl | hx
   ·exact hgr
   ·exact (HG7.out.below x8).2 x hx⟩
  clear x8 HG7 HFL hgb hgr hol c0 c1 c2 c3 c4 c5 c6 c7 c8 c9 c10 c11 c12 c13 c14
  obtain ⟨c0, c1, c2, c3, c4, c5, c6, c7, c8, c9, c10, c11, c12, c13, c14⟩ := cells15 (HG8.out.get 1 rfl)
  as_aux_lemma =>
  go_wp2_with fail
  refine (HFL2.out _ (HT.out.below HG8.out.1)).mono ?_
  rintro e w9 ⟨⟨gm, cm, sq, rfl, hcm, hgb, hgr⟩, x9⟩
  obtain ⟨om, hom⟩ : ∃ ob : Obj, ob = .cells (flV L2 ++ sq).toArray 43 (0, 0) := ⟨_, rfl⟩
  rw [← hom] at hgr
  have HOM := hI hom
  have HG9 : Hid (BX w [(gm, om), (gl, ol), (n10, Obj.cells #[.string i.id, .int .i64 i.kind, .string i.cur, .int .i64 i.places, .int .i64 i.issued, .int .i64 i.matures, .string (I qd.num), .string (dn qd), .string i.cn, .string i.cd, .int .i64 i.months, .int .i64 i.count, .string i.other, .string i.sn, .string i.sd] 27 (0, 0)), (n9', fobj qt), (w.heap.size + 1, fobj qy), (w.heap.size + 2, fobj qz), (w.heap.size, Obj.cells i.cells 27 (0, 0))] w9) := ⟨(HG8.out.below x9).1, fun x hx => by
   rcases List.mem_cons.1 hx with rfl | hx
   ·exact hgr
   ·exact (HG8.out.below x9).2 x hx⟩
  clear x9 HG8 HFL2 hgb hgr hom c0 c1 c2 c3 c4 c5 c6 c7 c8 c9 c10 c11 c12 c13 c14
  have c0 := Lib.cell_of_heap (HG9.out.get 6 rfl) 0
  have c1 := Lib.cell_of_heap (HG9.out.get 6 rfl) 1
  have c2 := Lib.cell_of_heap (HG9.out.get 6 rfl) 2
  have c3 := Lib.cell_of_heap (HG9.out.get 6 rfl) 3
  have c4 := Lib.cell_of_heap (HG9.out.get 6 rfl) 4
  have c5 := Lib.cell_of_heap (HG9.out.get 6 rfl) 5
  have c6 := Lib.cell_of_heap (HG9.out.get 6 rfl) 6
  have c7 := Lib.cell_of_heap (HG9.out.get 6 rfl) 7
  have c8 := Lib.cell_of_heap (HG9.out.get 6 rfl) 8
  have c9 := Lib.cell_of_heap (HG9.out.get 6 rfl) 9
  have c10 := Lib.cell_of_heap (HG9.out.get 6 rfl) 10
  have c11 := Lib.cell_of_heap (HG9.out.get 6 rfl) 11
  have c12 := Lib.cell_of_heap (HG9.out.get 6 rfl) 12
  have c13 := Lib.cell_of_heap (HG9.out.get 6 rfl) 13
  have c14 := Lib.cell_of_heap (HG9.out.get 6 rfl) 14
  simp [Inst.cells] at c0 c1 c2 c3 c4 c5 c6 c7 c8 c9 c10 c11 c12 c13 c14
  as_aux_lemma =>
  go_wp2_with fail
  refine (HA1.out _ (HT.out.below HG9.out.1)).mono ?_
  rintro e wv0 ⟨rfl, xv⟩
  have HU0 := hI (HG9.out.below xv)
  clear xv HG9 HA1 c0 c1 c2 c3 c4 c5 c6 c7 c8 c9 c10 c11 c12 c13 c14 
  obtain ⟨V0, hV0⟩ : ∃ W, wv0.alloc (.cells #[.string (I qa.num), .string (dn qa)] 25) = W := ⟨_, rfl⟩
  have HV0 : Hid (BX w [(wv0.heap.size, fobj qa), (gm, om), (gl, ol), (n10, Obj.cells #[.string i.id, .int .i64 i.kind, .string i.cur, .int .i64 i.places, .int .i64 i.issued, .int .i64 i.matures, .string (I qd.num), .string (dn qd), .string i.cn, .string i.cd, .int .i64 i.months, .int .i64 i.count, .string i.other, .string i.sn, .string i.sd] 27 (0, 0)), (n9', fobj qt), (w.heap.size + 1, fobj qy), (w.heap.size + 2, fobj qz), (w.heap.size, Obj.cells i.cells 27 (0, 0))] V0) := by show BX _ _ _; rw [← hV0]; exact HU0.out.push _
  clear HU0
  obtain ⟨c0, c1, c2, c3, c4, c5, c6, c7, c8, c9, c10, c11, c12, c13, c14⟩ := cells15 (HV0.out.get 3 rfl)
  as_aux_lemma =>
  go_wp2_with fail
  refine (HA2.out _ (HT.out.below HV0.out.1)).mono ?_
  rintro e wv1 ⟨rfl, xv⟩
  have HU1 := hI (HV0.out.below xv)
  clear xv HV0 HA2 c0 c1 c2 c3 c4 c5 c6 c7 c8 c9 c10 c11 c12 c13 c14 hV0
  obtain ⟨V1, hV1⟩ : ∃ W, wv1.alloc (.cells #[.string (I qb.num), .string (dn qb)] 25) = W := ⟨_, rfl⟩
  have HV1 : Hid (BX w [(wv1.heap.size, fobj qb), (wv0.heap.size, fobj qa), (gm, om), (gl, ol), (n10, Obj.cells #[.string i.id, .int .i64 i.kind, .string i.cur, .int .i64 i.places, .int .i64 i.issued, .int .i64 i.matures, .string (I qd.num), .string (dn qd), .string i.cn, .string i.cd, .int .i64 i.months, .int .i64 i.count, .string i.other, .string i.sn, .string i.sd] 27 (0, 0)), (n9', fobj qt), (w.heap.size + 1, fobj qy), (w.heap.size + 2, fobj qz), (w.heap.size, Obj.cells i.cells 27 (0, 0))] V1) := by show BX _ _ _; rw [← hV1]; exact HU1.out.push _
  clear HU1
  have c0 := Lib.cell_of_heap (HV1.out.get 8 rfl) 0
  have c1 := Lib.cell_of_heap (HV1.out.get 8 rfl) 1
  have c2 := Lib.cell_of_heap (HV1.out.get 8 rfl) 2
  have c3 := Lib.cell_of_heap (HV1.out.get 8 rfl) 3
  have c4 := Lib.cell_of_heap (HV1.out.get 8 rfl) 4
  have c5 := Lib.cell_of_heap (HV1.out.get 8 rfl) 5
  have c6 := Lib.cell_of_heap (HV1.out.get 8 rfl) 6
  have c7 := Lib.cell_of_heap (HV1.out.get 8 rfl) 7
  have c8 := Lib.cell_of_heap (HV1.out.get 8 rfl) 8
  have c9 := Lib.cell_of_heap (HV1.out.get 8 rfl) 9
  have c10 := Lib.cell_of_heap (HV1.out.get 8 rfl) 10
  have c11 := Lib.cell_of_heap (HV1.out.get 8 rfl) 11
  have c12 := Lib.cell_of_heap (HV1.out.get 8 rfl) 12
  have c13 := Lib.cell_of_heap (HV1.out.get 8 rfl) 13
  have c14 := Lib.cell_of_heap (HV1.out.get 8 rfl) 14
  simp [Inst.cells] at c0 c1 c2 c3 c4 c5 c6 c7 c8 c9 c10 c11 c12 c13 c14
  have y0 := Lib.cell_of_heap (HV1.out.get 6 rfl) 0
  have y1 := Lib.cell_of_heap (HV1.out.get 6 rfl) 1
  simp at y0 y1
  as_aux_lemma =>
  go_wp2_with fail
  refine (HP1.out _ (HT.out.below HV1.out.1)).mono ?_
  rintro e wv2 ⟨rfl, xv⟩
  have HU2 := hI (HV1.out.below xv)
  clear xv HV1 HP1 c0 c1 c2 c3 c4 c5 c6 c7 c8 c9 c10 c11 c12 c13 c14 y0 y1 hV1
  obtain ⟨V2, hV2⟩ : ∃ W, wv2.alloc (.cells #[.string (I qp.num), .string (dn qp)] 25) = W := ⟨_, rfl⟩
  have HV2 : Hid (BX w [(wv2.heap.size, fobj qp), (wv1.heap.size, fobj qb), (wv0.heap.size, fobj qa), (gm, om), (gl, ol), (n10, Obj.cells #[.string i.id, .int .i64 i.kind, .string i.cur, .int .i64 i.places, .int .i64 i.issued, .int .i64 i.matures, .string (I qd.num), .string (dn qd), .string i.cn, .string i.cd, .int .i64 i.months, .int .i64 i.count, .string i.other, .string i.sn, .string i.sd] 27 (0, 0)), (n9', fobj qt), (w.heap.size + 1, fobj qy), (w.heap.size + 2, fobj qz), (w.heap.size, Obj.cells i.cells 27 (0, 0))] V2) := by show BX _ _ _; rw [← hV2]; exact HU2.out.push _
  clear HU2
  obtain ⟨c0, c1, c2, c3, c4, c5, c6, c7, c8, c9, c10, c11, c12, c13, c14⟩ := cells15 (HV2.out.get 5 rfl)
  have y0 := Lib.cell_of_heap (HV2.out.get 7 rfl) 0
  have y1 := Lib.cell_of_heap (HV2.out.get 7 rfl) 1
  simp at y0 y1
  as_aux_lemma =>
  go_wp2_with fail
  refine (HP2.out _ (HT.out.below HV2.out.1)).mono ?_
  rintro e wv3 ⟨rfl, xv⟩
  have HU3 := hI (HV2.out.below xv)
  clear xv HV2 HP2 c0 c1 c2 c3 c4 c5 c6 c7 c8 c9 c10 c11 c12 c13 c14 y0 y1 hV2
  obtain ⟨V3, hV3⟩ : ∃ W, wv3.alloc (.cells #[.string (I qq.num), .string (dn qq)] 25) = W := ⟨_, rfl⟩
  have HV3 : Hid (BX w [(wv3.heap.size, fobj qq), (wv2.heap.size, fobj qp), (wv1.heap.size, fobj qb), (wv0.heap.size, fobj qa), (gm, om), (gl, ol), (n10, Obj.cells #[.string i.id, .int .i64 i.kind, .string i.cur, .int .i64 i.places, .int .i64 i.issued, .int .i64 i.matures, .string (I qd.num), .string (dn qd), .string i.cn, .string i.cd, .int .i64 i.months, .int .i64 i.count, .string i.other, .string i.sn, .string i.sd] 27 (0, 0)), (n9', fobj qt), (w.heap.size + 1, fobj qy), (w.heap.size + 2, fobj qz), (w.heap.size, Obj.cells i.cells 27 (0, 0))] V3) := by show BX _ _ _; rw [← hV3]; exact HU3.out.push _
  clear HU3
  have c0 := Lib.cell_of_heap (HV3.out.get 10 rfl) 0
  have c1 := Lib.cell_of_heap (HV3.out.get 10 rfl) 1
  have c2 := Lib.cell_of_heap (HV3.out.get 10 rfl) 2
  have c3 := Lib.cell_of_heap (HV3.out.get 10 rfl) 3
  have c4 := Lib.cell_of_heap (HV3.out.get 10 rfl) 4
  have c5 := Lib.cell_of_heap (HV3.out.get 10 rfl) 5
  have c6 := Lib.cell_of_heap (HV3.out.get 10 rfl) 6
  have c7 := Lib.cell_of_heap (HV3.out.get 10 rfl) 7
  have c8 := Lib.cell_of_heap (HV3.out.get 10 rfl) 8
  have c9 := Lib.cell_of_heap (HV3.out.get 10 rfl) 9
  have c10 := Lib.cell_of_heap (HV3.out.get 10 rfl) 10
  have c11 := Lib.cell_of_heap (HV3.out.get 10 rfl) 11
  have c12 := Lib.cell_of_heap (HV3.out.get 10 rfl) 12
  have c13 := Lib.cell_of_heap (HV3.out.get 10 rfl) 13
  have c14 := Lib.cell_of_heap (HV3.out.get 10 rfl) 14
  simp [Inst.cells] at c0 c1 c2 c3 c4 c5 c6 c7 c8 c9 c10 c11 c12 c13 c14
  have z0 := Lib.cell_of_heap (HV3.out.get 9 rfl) 0
  have z1 := Lib.cell_of_heap (HV3.out.get 9 rfl) 1
  simp at z0 z1
  as_aux_lemma =>
  go_wp2_with fail
  refine (HDI.out _ (HT.out.below HV3.out.1)).mono ?_
  rintro e wv4 ⟨rfl, xv⟩
  have HU4 := hI (HV3.out.below xv)
  clear xv HV3 HDI c0 c1 c2 c3 c4 c5 c6 c7 c8 c9 c10 c11 c12 c13 c14 z0 z1 hV3
  obtain ⟨V4, hV4⟩ : ∃ W, wv4.alloc (.cells #[.string (I qx.num), .string (dn qx)] 25) = W := ⟨_, rfl⟩
  have HV4 : Hid (BX w [(wv4.heap.size, fobj qx), (wv3.heap.size, fobj qq), (wv2.heap.size, fobj qp), (wv1.heap.size, fobj qb), (wv0.heap.size, fobj qa), (gm, om), (gl, ol), (n10, Obj.cells #[.string i.id, .int .i64 i.kind, .string i.cur, .int .i64 i.places, .int .i64 i.issued, .int .i64 i.matures, .string (I qd.num), .string (dn qd), .string i.cn, .string i.cd, .int .i64 i.months, .int .i64 i.count, .string i.other, .string i.sn, .string i.sd] 27 (0, 0)), (n9', fobj qt), (w.heap.size + 1, fobj qy), (w.heap.size + 2, fobj qz), (w.heap.size, Obj.cells i.cells 27 (0, 0))] V4) := by show BX _ _ _; rw [← hV4]; exact HU4.out.push _
  clear HU4
  have tF : ((F : Int) != (F : Int)) = false := by simp
  have tF2 : (F != F) = false := by simp
  obtain ⟨al, hal⟩ : ∃ ad : Addr, ad = ⟨gl, 0, none⟩ := ⟨_, rfl⟩
  obtain ⟨am, ham⟩ : ∃ ad : Addr, ad = ⟨gm, 0, none⟩ := ⟨_, rfl⟩
  have HAL : Hid (∀ (W : World) (k : Nat) (x : Int × Rat), W.heap[gl]? = some ol → Ls[k]? = some x → W.cell? (al.add (k * 3)) = some (.int .i64 x.1) ∧ W.cell? ⟨(al.add (k * 3)).block, (al.add (k * 3)).off + 1, none⟩ = some (.string (I x.2.num)) ∧ W.cell? ⟨(al.add (k * 3)).block, (al.add (k * 3)).off + 2, none⟩ = some (.string (dn x.2))) := fun W k x hW hx => by
   rw [HOL.out] at hW
   have hs : FRow W gl sp Ls W := ⟨hW, ⟨rfl, rfl, rfl, Nat.le_refl _, fun _ _ _ => rfl⟩, (Array.getElem?_eq_some_iff.1 hW).1⟩
   exact hs.at' hal hx
  have HAM : Hid (∀ (W : World) (k : Nat) (x : Int × Rat), W.heap[gm]? = some om → L2[k]? = some x → W.cell? (am.add (k * 3)) = some (.int .i64 x.1) ∧ W.cell? ⟨(am.add (k * 3)).block, (am.add (k * 3)).off + 1, none⟩ = some (.string (I x.2.num)) ∧ W.cell? ⟨(am.add (k * 3)).block, (am.add (k * 3)).off + 2, none⟩ = some (.string (dn x.2))) := fun W k x hW hx => by
   rw [HOM.out] at hW
   have hs : FRow W gm sq L2 W := ⟨hW, ⟨rfl, rfl, rfl, Nat.le_refl _, fun _ _ _ => rfl⟩, (Array.getElem?_eq_some_iff.1 hW).1⟩
   exact hs.at' ham hx
  rw [← hal, ← ham]
  clear hal ham
  as_aux_lemma =>
  go_wp2_with fail
  generalize wv0.heap.size = n15 at HV4 ⊢
  generalize wv1.heap.size = n17 at HV4 ⊢
  generalize wv2.heap.size = n19 at HV4 ⊢
  generalize wv3.heap.size = n21 at HV4 ⊢
  generalize wv4.heap.size = n23 at HV4 ⊢
  clear hV4
  go_loopw [25, 26, 150] (fun _ _ v wr => ∃ k : Nat, v = .int .i64 (k : Int) ∧ k ≤ F ∧ BX w [(n23, fobj qx), (n21, fobj qq), (n19, fobj qp), (n17, fobj qb), (n15, fobj qa), (gm, om), (gl, ol), (n10, Obj.cells #[.string i.id, .int .i64 i.kind, .string i.cur, .int .i64 i.places, .int .i64 i.issued, .int .i64 i.matures, .string (I qd.num), .string (dn qd), .string i.cn, .string i.cd, .int .i64 i.months, .int .i64 i.count, .string i.other, .string i.sn, .string i.sd] 27 (0, 0)), (n9', fobj qt), (w.heap.size + 1, fobj qy), (w.heap.size + 2, fobj qz), (w.heap.size, Obj.cells i.cells 27 (0, 0))] wr) (fun _ _ v _ => F - (intOf v).toNat)
  case atStart => exact ⟨0, rfl, by omega, HV4.out⟩
  case round =>
   as_aux_lemma =>
   obtain ⟨k, rfl, hk, hbx⟩ := hrel
   have HB := hI hbx
   clear hbx HV4
   rcases Nat.lt_or_ge k F with hlt | hge
   ·obtain ⟨⟨fd, fq⟩, hx⟩ : ∃ x, Ls[k]? = some x := ⟨_, List.getElem?_eq_getElem (by rw [HLL.out]; exact hlt)⟩
    have hx2 := HL2.out k _ hx
    obtain ⟨fm, hfm⟩ : ∃ q, fq * qt = q := ⟨_, rfl⟩
    simp only at hx2
    rw [hfm] at hx2
    have hq80 := HFB.out fq (List.mem_map.2 ⟨_, List.mem_of_getElem? hx, rfl⟩)
    have hmu := fun W (hW : Tabs W) => fMulQ hq80 HBT.out (by omega) (by omega) W hW
    rw [hfm] at hmu
    unfold fenc at hmu
    have HMU0 := hI hmu
    have HMM : Hid (∀ W : World, W.heap[gm]? = some om → W.cell? (am.add (k * 3)) = some (.int .i64 fd) ∧ W.cell? ⟨(am.add (k * 3)).block, (am.add (k * 3)).off + 1, none⟩ = some (.string (I fm.num)) ∧ W.cell? ⟨(am.add (k * 3)).block, (am.add (k * 3)).off + 2, none⟩ = some (.string (dn fm))) := fun W hW => HAM.out W k _ hW hx2
    have hcx : decide ((k : Int) < (F : Int)) = true := by simp; omega
    have hki : (k : Int) < (F : Int) := by omega
    have HKI := hI hki
    obtain ⟨c0, c1, c2⟩ := HAL.out _ k _ (HB.out.get 6 rfl) hx
    simp only at c0 c1 c2
    obtain ⟨W5, hW5⟩ : ∃ W5, wr.alloc (.cells #[.int .i64 fd, .string (I fq.num), .string (dn fq)] 43) = W5 := ⟨_, rfl⟩
    have HGZ : Hid (BX w ((wr.heap.size, Obj.cells #[.int .i64 fd, .string (I fq.num), .string (dn fq)] 43 (0, 0)) :: [(n23, fobj qx), (n21, fobj qq), (n19, fobj qp), (n17, fobj qb), (n15, fobj qa), (gm, om), (gl, ol), (n10, Obj.cells #[.string i.id, .int .i64 i.kind, .string i.cur, .int .i64 i.places, .int .i64 i.issued, .int .i64 i.matures, .string (I qd.num), .string (dn qd), .string i.cn, .string i.cd, .int .i64 i.months, .int .i64 i.count, .string i.other, .string i.sn, .string i.sd] 27 (0, 0)), (n9', fobj qt), (w.heap.size + 1, fobj qy), (w.heap.size + 2, fobj qz), (w.heap.size, Obj.cells i.cells 27 (0, 0))]) W5) := by show BX _ _ _; rw [← hW5]; exact HB.out.push _
    clear hx hx2 hfm hq80 hmu HB
    go_upto_region 18 with fail
    generalize wr.heap.size = nb at HGZ ⊢
    have HMU : Hid (∀ W, BX w ((nb, Obj.cells #[.int .i64 fd, .string (I fq.num), .string (dn fq)] 43 (0, 0)) :: [(n23, fobj qx), (n21, fobj qq), (n19, fobj qp), (n17, fobj qb), (n15, fobj qa), (gm, om), (gl, ol), (n10, Obj.cells #[.string i.id, .int .i64 i.kind, .string i.cur, .int .i64 i.places, .int .i64 i.issued, .int .i64 i.matures, .string (I qd.num), .string (dn qd), .string i.cn, .string i.cd, .int .i64 i.months, .int .i64 i.count, .string i.other, .string i.sn, .string i.sd] 27 (0, 0)), (n9', fobj qt), (w.heap.size + 1, fobj qy), (w.heap.size + 2, fobj qz), (w.heap.size, Obj.cells i.cells 27 (0, 0))]) W → Calls Tryz.prog 12 #[.agg #[.string (I fq.num), .string (dn fq)], .agg #[.string (I qt.num), .string (dn qt)]] W fun e w' => e = .returned (.agg #[.string (I fm.num), .string (dn fm)]) ∧ Below W.heap.size W w') := fun W hW => HMU0.out W (HT.out.below hW.1)
    have HTW : Hid (∀ W, BX w ((nb, Obj.cells #[.int .i64 fd, .string (I fq.num), .string (dn fq)] 43 (0, 0)) :: [(n23, fobj qx), (n21, fobj qq), (n19, fobj qp), (n17, fobj qb), (n15, fobj qa), (gm, om), (gl, ol), (n10, Obj.cells #[.string i.id, .int .i64 i.kind, .string i.cur, .int .i64 i.places, .int .i64 i.issued, .int .i64 i.matures, .string (I qd.num), .string (dn qd), .string i.cn, .string i.cd, .int .i64 i.months, .int .i64 i.count, .string i.other, .string i.sn, .string i.sd] 27 (0, 0)), (n9', fobj qt), (w.heap.size + 1, fobj qy), (w.heap.size + 2, fobj qz), (w.heap.size, Obj.cells i.cells 27 (0, 0))]) W → W.heap[n9']? = some (fobj qt)) := fun W hW => hW.get 9 rfl
    have hg : BX w ((nb, Obj.cells #[.int .i64 fd, .string (I fq.num), .string (dn fq)] 43 (0, 0)) :: [(n23, fobj qx), (n21, fobj qq), (n19, fobj qp), (n17, fobj qb), (n15, fobj qa), (gm, om), (gl, ol), (n10, Obj.cells #[.string i.id, .int .i64 i.kind, .string i.cur, .int .i64 i.places, .int .i64 i.issued, .int .i64 i.matures, .string (I qd.num), .string (dn qd), .string i.cn, .string i.cd, .int .i64 i.months, .int .i64 i.count, .string i.other, .string i.sn, .string i.sd] 27 (0, 0)), (n9', fobj qt), (w.heap.size + 1, fobj qy), (w.heap.size + 2, fobj qz), (w.heap.size, Obj.cells i.cells 27 (0, 0))]) W5.drew := ⟨HGZ.out.1.drew, HGZ.out.2⟩
    clear HGZ HMU0 hW5 c0 c1 c2
    have mixed : Tryz.prog.follows .mixedOrders = true := by kernel_rfl
    as_aux_lemma =>
    refine wp_region_any mixed (wpAny_inv (SBJ w [(n23, fobj qx), (n21, fobj qq), (n19, fobj qp), (n17, fobj qb), (n15, fobj qa), (gm, om), (gl, ol), (n10, Obj.cells #[.string i.id, .int .i64 i.kind, .string i.cur, .int .i64 i.places, .int .i64 i.issued, .int .i64 i.matures, .string (I qd.num), .string (dn qd), .string i.cn, .string i.cd, .int .i64 i.months, .int .i64 i.count, .string i.other, .string i.sn, .string i.sd] 27 (0, 0)), (n9', fobj qt), (w.heap.size + 1, fobj qy), (w.heap.size + 2, fobj qz), (w.heap.size, Obj.cells i.cells 27 (0, 0))] al am F cl cm n9' nb k fd fq fm qt _ _ _ _ _ _ _ _ _ _ _ _ _ _ _ _ _ _ _ _ _ _ _ _ _ _ _ _ _ _ _ _ _ _ _ _ _ _ _ _ _ _ _ _ _ _ _ _ _ _ _ _ _ _ _ _ _ _ _ _ _ _ _ _ _ _ _ _ _ _ _ _ _ _ _ _ _ _ _ _ _ _ _ _ _ _ _ _ _ _ _ _ _ _ _ _ _ _ _ _ _ _ _ _ _ _ _ _ _ _ _ _ _ _ _ _ _ _ _ _ _ _ _ _ _ _ _ _ _ _ _ _ _ _ _ _ _ _ _ _ _ _ _ _ _ _ _ _ _ _ _ _ _ _ _ _ _ _ _ _ _ _ _ _ _ _ _ _ _ _ _ _ _ _) ?stSB ?dnSB _ _ _ _ ⟨by simp, ⟨_, _, _, _, _, _, _, _, _, _, _, _, _, _, _, _, _, _, _, _, rfl, fun h => by simp at h, fun h => by simp at h, fun h => by simp at h, fun h => by simp at h, fun h => by simp at h, fun h => by simp at h, fun h => by simp at h, fun h => by simp at h, fun h => by simp at h, fun h => by simp at h, fun h => by simp at h, fun h => by simp at h, fun h => by simp at h, fun h => by simp at h, fun h => by simp at h, fun h => by simp at h, fun h => by simp at h, fun h => by simp at h, fun h => by simp at h, fun h => by simp at h, hg⟩⟩ (by decide))
    case dnSB =>
     as_aux_lemma =>
     intro L a w' hj hr
     have all := all_on hr hj.sz (by kernel_rfl)
     obtain ⟨s155, s156, s157, s158, s159, s160, s161, s162, s163, s164, s165, s166, s167, s168, s169, s170, s171, s172, s173, s174, rfl, hv⟩ := hj.fr
     have HGG := hI hv.bx
     have es := hv.k19 (all 19 (by omega))
     clear all hv hj hr
     subst es
     go_wp2_with fail
     go_roundw
     case rel => exact ⟨k + 1, by go_num, by omega, HGG.out.1, fun x hx => HGG.out.2 x (List.mem_cons_of_mem _ hx)⟩
     case measure => simp [intOf]; omega
    case stSB =>
     as_aux_lemma =>
     intro L a w' hj i hi
     obtain ⟨hun, o, ho, hall⟩ := mem_ready.1 hi
     have hoff := getD_off hun
     have hlt := (Array.getElem?_eq_some_iff.1 ho).1
     simp at hlt
     obtain ⟨s155, s156, s157, s158, s159, s160, s161, s162, s163, s164, s165, s166, s167, s168, s169, s170, s171, s172, s173, s174, rfl, hv⟩ := hj.fr
     have HV := hI hv
     have HJ := hI hj
     clear hv hj
     rcases (show i = 0 ∨ i = 1 ∨ i = 2 ∨ i = 3 ∨ i = 4 ∨ i = 5 ∨ i = 6 ∨ i = 7 ∨ i = 8 ∨ i = 9 ∨ i = 10 ∨ i = 11 ∨ i = 12 ∨ i = 13 ∨ i = 14 ∨ i = 15 ∨ i = 16 ∨ i = 17 ∨ i = 18 ∨ i = 19 from by omega) with rfl | rfl | rfl | rfl | rfl | rfl | rfl | rfl | rfl | rfl | rfl | rfl | rfl | rfl | rfl | rfl | rfl | rfl | rfl | rfl
     all_goals simp at ho
     all_goals subst ho
     rotate_left
     rotate_left
     cases HV.out.k0 (Hq hall 0).out
     cases HV.out.k1 (Hq hall 1).out
     have hki := HKI.out
     rotate_left
     cases HV.out.k2 (Hq hall 2).out
     rotate_left
     cases HV.out.k3 (Hq hall 3).out
     obtain ⟨e0, e1, e2⟩ := HMM.out _ (HV.out.bx.get 6 rfl)
     rotate_left
     rotate_left
     cases HV.out.k5 (Hq hall 5).out
     have hb := HV.out.bx.get 0 rfl; have c0 := Lib.cell_of_heap hb 0; have c1 := Lib.cell_of_heap hb 1; have c2 := Lib.cell_of_heap hb 2
     simp at c0 c1 c2
     rotate_left
     cases HV.out.k4 (Hq hall 4).out
     cases HV.out.k6 (Hq hall 6).out
     rotate_left
     cases HV.out.k7 (Hq hall 7).out
     rotate_left
     cases HV.out.k8 (Hq hall 8).out
     rotate_left
     cases HV.out.k8 (Hq hall 8).out
     rotate_left
     cases HV.out.k9 (Hq hall 9).out
     cases HV.out.k10 (Hq hall 10).out
     cases HV.out.k8 (Hq hall 8).out
     have hki := HKI.out
     rotate_left
     cases HV.out.k11 (Hq hall 11).out
     cases HV.out.k8 (Hq hall 8).out
     rotate_left
     cases HV.out.k12 (Hq hall 12).out
     cases HV.out.k8 (Hq hall 8).out
     obtain ⟨e0, e1, e2⟩ := HMM.out _ (HV.out.bx.get 6 rfl)
     rotate_left
     cases HV.out.k8 (Hq hall 8).out
     rotate_left
     cases HV.out.k14 (Hq hall 14).out
     cases HV.out.k8 (Hq hall 8).out
     have hb := HV.out.bx.get 0 rfl; have c0 := Lib.cell_of_heap hb 0; have c1 := Lib.cell_of_heap hb 1; have c2 := Lib.cell_of_heap hb 2
     simp at c0 c1 c2
     rotate_left
     cases HV.out.k8 (Hq hall 8).out
     have hb := HTW.out _ HV.out.bx; have c0 := Lib.cell_of_heap hb 0; have c1 := Lib.cell_of_heap hb 1
     simp at c0 c1
     rotate_left
     ·cases HV.out.k15 (Hq hall 15).out
      cases HV.out.k16 (Hq hall 16).out
      cases HV.out.k8 (Hq hall 8).out
      clear hall hi
      refine wpOp_hid rfl fun K' HK => ?_
      go_simp
      refine (HMU.out _ HV.out.bx).mono ?_
      rintro e wn ⟨rfl, hbn⟩
      cases HV.out
      refine HK.out _ _ ⟨by simp [HJ.out.sz], ?_⟩
      iterate 20 apply Exists.intro
      refine ⟨rfl, ?_⟩
      constructor
      case k17 => exact fun _ => rfl
      case bx => exact HV.out.bx.below hbn
      all_goals exact Um (by assumption)
     cases HV.out.k13 (Hq hall 13).out
     cases HV.out.k17 (Hq hall 17).out
     cases HV.out.k8 (Hq hall 8).out
     have hq := run_neq_self (I fm.num) (dn fm)
     rotate_left
     cases HV.out.k8 (Hq hall 8).out
     cases HV.out.k18 (Hq hall 18).out
     rotate_left
     all_goals
      clear hall hi
      refine wpOp_hid rfl fun K' HK => ?_
      go_simp
      cases HV.out
      refine HK.out _ _ ⟨by simp [HJ.out.sz], ?_⟩
      iterate 20 apply Exists.intro
      refine ⟨rfl, ?_⟩
      constructor
      all_goals first | exact Um (by assumption) | exact Un (by assumption) | exact Uf (by assumption) | exact fun _ => rfl | assumption
   ·have hcx : decide ((k : Int) < (F : Int)) = false := by simp; omega
    have hcx2 : decide (k < F) = false := decide_eq_false (by omega)
    have hg : BX w [(n23, fobj qx), (n21, fobj qq), (n19, fobj qp), (n17, fobj qb), (n15, fobj qa), (gm, om), (gl, ol), (n10, Obj.cells #[.string i.id, .int .i64 i.kind, .string i.cur, .int .i64 i.places, .int .i64 i.issued, .int .i64 i.matures, .string (I qd.num), .string (dn qd), .string i.cn, .string i.cd, .int .i64 i.months, .int .i64 i.count, .string i.other, .string i.sn, .string i.sd] 27 (0, 0)), (n9', fobj qt), (w.heap.size + 1, fobj qy), (w.heap.size + 2, fobj qz), (w.heap.size, Obj.cells i.cells 27 (0, 0))] wr.drew := ⟨HB.out.1.drew, HB.out.2⟩
    clear HB
    go_wp2_with fail
    have mixed : Tryz.prog.follows .mixedOrders = true := by kernel_rfl
    as_aux_lemma =>
    refine wp_region_any mixed (wpAny_inv (SCJ w [(n23, fobj qx), (n21, fobj qq), (n19, fobj qp), (n17, fobj qb), (n15, fobj qa), (gm, om), (gl, ol), (n10, Obj.cells #[.string i.id, .int .i64 i.kind, .string i.cur, .int .i64 i.places, .int .i64 i.issued, .int .i64 i.matures, .string (I qd.num), .string (dn qd), .string i.cn, .string i.cd, .int .i64 i.months, .int .i64 i.count, .string i.other, .string i.sn, .string i.sd] 27 (0, 0)), (n9', fobj qt), (w.heap.size + 1, fobj qy), (w.heap.size + 2, fobj qz), (w.heap.size, Obj.cells i.cells 27 (0, 0))] n9' n15 n17 n19 n21 n23 qa qb qp qq qx qz qt _ _ _ _ _ _ _ _ _ _ _ _ _ _ _ _ _ _ _ _ _ _ _ _ _ _ _ _ _ _ _ _ _ _ _ _ _ _ _ _ _ _ _ _ _ _ _ _ _ _ _ _ _ _ _ _ _ _ _ _ _ _ _ _ _ _ _ _ _ _ _ _ _ _ _ _ _ _ _ _ _ _ _ _ _ _ _ _ _ _ _ _ _ _ _ _ _ _ _ _ _ _ _ _ _ _ _ _ _ _ _ _ _ _ _ _ _ _ _ _ _ _ _ _ _ _ _ _ _ _ _ _ _ _ _ _ _ _ _ _ _ _ _ _ _ _ _ _ _ _ _ _ _ _ _ _ _ _ _ _ _ _ _ _ _ _ _ _) ?stSC ?dnSC _ _ _ _ ⟨by simp, ⟨_, _, _, _, _, _, _, _, _, _, _, _, _, _, _, _, _, _, _, _, _, _, _, rfl, fun h => by simp at h, fun h => by simp at h, fun h => by simp at h, fun h => by simp at h, fun h => by simp at h, fun h => by simp at h, fun h => by simp at h, fun h => by simp at h, fun h => by simp at h, fun h => by simp at h, fun h => by simp at h, fun h => by simp at h, fun h => by simp at h, fun h => by simp at h, fun h => by simp at h, fun h => by simp at h, fun h => by simp at h, fun h => by simp at h, fun h => by simp at h, fun h => by simp at h, fun h => by simp at h, fun h => by simp at h, fun h => by simp at h, hg⟩⟩ (by decide))
    case dnSC =>
     as_aux_lemma =>
     intro L a w' hj hr
     have all := all_on hr hj.sz (by kernel_rfl)
     obtain ⟨s8, s176, s177, s178, s179, s180, s181, s182, s183, s184, s185, s186, s187, s188, s189, s190, s191, s192, s193, s194, s195, s196, s197, rfl, hv⟩ := hj.fr
     have HGG := hI hv.bx.1
     have es := hv.k22 (all 22 (by omega))
     clear all hv hj hr
     subst es
     go_wp2_with fail
     go_ret
     exact ⟨rfl, HGG.out⟩
    case stSC =>
     as_aux_lemma =>
     intro L a w' hj i hi
     obtain ⟨hun, o, ho, hall⟩ := mem_ready.1 hi
     have hoff := getD_off hun
     have hlt := (Array.getElem?_eq_some_iff.1 ho).1
     simp at hlt
     obtain ⟨s8, s176, s177, s178, s179, s180, s181, s182, s183, s184, s185, s186, s187, s188, s189, s190, s191, s192, s193, s194, s195, s196, s197, rfl, hv⟩ := hj.fr
     have HV := hI hv
     have HJ := hI hj
     clear hv hj
     rcases (show i = 0 ∨ i = 1 ∨ i = 2 ∨ i = 3 ∨ i = 4 ∨ i = 5 ∨ i = 6 ∨ i = 7 ∨ i = 8 ∨ i = 9 ∨ i = 10 ∨ i = 11 ∨ i = 12 ∨ i = 13 ∨ i = 14 ∨ i = 15 ∨ i = 16 ∨ i = 17 ∨ i = 18 ∨ i = 19 ∨ i = 20 ∨ i = 21 ∨ i = 22 from by omega) with rfl | rfl | rfl | rfl | rfl | rfl | rfl | rfl | rfl | rfl | rfl | rfl | rfl | rfl | rfl | rfl | rfl | rfl | rfl | rfl | rfl | rfl | rfl
     all_goals simp at ho
     all_goals subst ho
     have hb := HV.out.bx.get 3 rfl; have c0 := Lib.cell_of_heap hb 0; have c1 := Lib.cell_of_heap hb 1
     simp at c0 c1
     rotate_left
     have hb := HV.out.bx.get 4 rfl; have c0 := Lib.cell_of_heap hb 0; have c1 := Lib.cell_of_heap hb 1
     simp at c0 c1
     rotate_left
     have hb := HV.out.bx.get 8 rfl; have c0 := Lib.cell_of_heap hb 0; have c1 := Lib.cell_of_heap hb 1
     simp at c0 c1
     rotate_left
     ·cases HV.out.k1 (Hq hall 1).out
      cases HV.out.k2 (Hq hall 2).out
      clear hall hi
      refine wpOp_hid rfl fun K' HK => ?_
      go_simp
      refine (HM1.out _ (HT.out.below (HV.out.bx).1)).mono ?_
      rintro e wn ⟨rfl, hbn⟩
      cases HV.out
      refine HK.out _ _ ⟨by simp [HJ.out.sz], ?_⟩
      iterate 23 apply Exists.intro
      refine ⟨rfl, ?_⟩
      constructor
      case k3 => exact fun _ => rfl
      case bx => exact HV.out.bx.below hbn
      all_goals exact Um (by assumption)
     cases HV.out.k0 (Hq hall 0).out
     cases HV.out.k3 (Hq hall 3).out
     have hq := run_eql_self (I qb.num) (dn qb)
     rotate_left
     cases HV.out.k4 (Hq hall 4).out
     rotate_left
     cases HV.out.k5 (Hq hall 5).out
     have hb := HV.out.bx.get 1 rfl; have c0 := Lib.cell_of_heap hb 0; have c1 := Lib.cell_of_heap hb 1
     simp at c0 c1
     rotate_left
     cases HV.out.k5 (Hq hall 5).out
     have hb := HV.out.bx.get 2 rfl; have c0 := Lib.cell_of_heap hb 0; have c1 := Lib.cell_of_heap hb 1
     simp at c0 c1
     rotate_left
     cases HV.out.k5 (Hq hall 5).out
     have hb := HV.out.bx.get 8 rfl; have c0 := Lib.cell_of_heap hb 0; have c1 := Lib.cell_of_heap hb 1
     simp at c0 c1
     rotate_left
     ·cases HV.out.k7 (Hq hall 7).out
      cases HV.out.k8 (Hq hall 8).out
      cases HV.out.k5 (Hq hall 5).out
      clear hall hi
      refine wpOp_hid rfl fun K' HK => ?_
      go_simp
      refine (HM2.out _ (HT.out.below (HV.out.bx).1)).mono ?_
      rintro e wn ⟨rfl, hbn⟩
      cases HV.out
      refine HK.out _ _ ⟨by simp [HJ.out.sz], ?_⟩
      iterate 23 apply Exists.intro
      refine ⟨rfl, ?_⟩
      constructor
      case k9 => exact fun _ => rfl
      case bx => exact HV.out.bx.below hbn
      all_goals exact Um (by assumption)
     cases HV.out.k6 (Hq hall 6).out
     cases HV.out.k9 (Hq hall 9).out
     cases HV.out.k5 (Hq hall 5).out
     have hq := run_eql_self (I qq.num) (dn qq)
     rotate_left
     cases HV.out.k5 (Hq hall 5).out
     cases HV.out.k10 (Hq hall 10).out
     rotate_left
     cases HV.out.k11 (Hq hall 11).out
     rotate_left
     cases HV.out.k12 (Hq hall 12).out
     have hb := HV.out.bx.get 0 rfl; have c0 := Lib.cell_of_heap hb 0; have c1 := Lib.cell_of_heap hb 1
     simp at c0 c1
     rotate_left
     cases HV.out.k12 (Hq hall 12).out
     have hb := HV.out.bx.get 4 rfl; have c0 := Lib.cell_of_heap hb 0; have c1 := Lib.cell_of_heap hb 1
     simp at c0 c1
     rotate_left
     ·cases HV.out.k13 (Hq hall 13).out
      cases HV.out.k14 (Hq hall 14).out
      cases HV.out.k12 (Hq hall 12).out
      clear hall hi
      refine wpOp_hid rfl fun K' HK => ?_
      go_simp
      refine (HSB.out _ (HT.out.below (HV.out.bx).1)).mono ?_
      rintro e wn ⟨rfl, hbn⟩
      cases HV.out
      refine HK.out _ _ ⟨by simp [HJ.out.sz], ?_⟩
      iterate 23 apply Exists.intro
      refine ⟨rfl, ?_⟩
      constructor
      case k15 => exact fun _ => rfl
      case bx => exact HV.out.bx.below hbn
      all_goals exact Um (by assumption)
     cases HV.out.k12 (Hq hall 12).out
     have hb := HV.out.bx.get 10 rfl; have c0 := Lib.cell_of_heap hb 0; have c1 := Lib.cell_of_heap hb 1
     simp at c0 c1
     rotate_left
     cases HV.out.k15 (Hq hall 15).out
     cases HV.out.k16 (Hq hall 16).out
     cases HV.out.k12 (Hq hall 12).out
     have hq := run_eql_self (I qz.num) (dn qz)
     rotate_left
     cases HV.out.k12 (Hq hall 12).out
     cases HV.out.k17 (Hq hall 17).out
     rotate_left
     cases HV.out.k18 (Hq hall 18).out
     rotate_left
     ·cases HV.out.k19 (Hq hall 19).out
      clear hall hi
      refine wpOp_hid rfl fun K' HK => ?_
      go_simp
      refine (HAW.out _ (HT.out.below (HV.out.bx).1)).mono ?_
      rintro e wn ⟨rfl, hbn⟩
      cases HV.out
      refine HK.out _ _ ⟨by simp [HJ.out.sz], ?_⟩
      iterate 23 apply Exists.intro
      refine ⟨rfl, ?_⟩
      constructor
      case k20 => exact fun _ => rfl
      case bx => exact HV.out.bx.below hbn
      all_goals exact Um (by assumption)
     cases HV.out.k19 (Hq hall 19).out
     cases HV.out.k20 (Hq hall 20).out
     rotate_left
     cases HV.out.k21 (Hq hall 21).out
     rotate_left
     all_goals
      clear hall hi
      refine wpOp_hid rfl fun K' HK => ?_
      go_simp
      cases HV.out
      refine HK.out _ _ ⟨by simp [HJ.out.sz], ?_⟩
      iterate 23 apply Exists.intro
      refine ⟨rfl, ?_⟩
      constructor
      all_goals first | exact Um (by assumption) | exact Un (by assumption) | exact Uf (by assumption) | exact fun _ => rfl | assumption
end Go.Proofs.YtcnmoobojdopgaaGreatDoor
