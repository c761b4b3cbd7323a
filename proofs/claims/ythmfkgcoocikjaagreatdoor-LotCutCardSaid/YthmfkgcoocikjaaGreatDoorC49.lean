/-
  tranchelaw19.LotCut returns true. (Printed by gen_law11.py.)
-/
import Derived.Test.YthmfkgcoocikjaaGreatDoorR41
import Derived.Test.YthmfkgcoocikjaaGreatDoorC48
set_option linter.unusedVariables false
set_option linter.unusedSimpArgs false
namespace Go.Proofs.YthmfkgcoocikjaaGreatDoor
open Go.RowKit Tr Go.Shelf
theorem Uz {L : Array Bool} {i j : Nat} (h : (L.setIfInBounds i true).getD j false = true) (e : i ≠ j := by decide) : L.getD j false = true := getD_dn e h
theorem Um {L : Array Bool} {i j : Nat} {X : Prop} (f : L.getD j false = true → X) (e : i ≠ j := by decide) : (L.setIfInBounds i true).getD j false = true → X := fun h => f (getD_dn e h)
theorem Dz {L : Array Bool} {i j : Nat} (h : (L.setIfInBounds i true).getD j false = false) (e : i ≠ j := by decide) : L.getD j false = false := getD_df e h
structure XW (w : World) (l LA LB : Lot) (Bx Ba Bb : Nat) (W : World) : Prop where
 be : Below w.heap.size w W
 bx : LotBox W Bx l
 ba : LotBox W Ba LA
 bb : LotBox W Bb LB
theorem XW.below {w : World} {l LA LB : Lot} {Bx Ba Bb : Nat} {W W' : World} (h : XW w l LA LB Bx Ba Bb W) (hb : Below W.heap.size W W') : XW w l LA LB Bx Ba Bb W' :=
 ⟨h.be.trans (hb.mono h.be.size), h.bx.below hb, h.ba.below hb, h.bb.below hb⟩
theorem xfar2 {W : World} {B k : Nat} (hk : k ≠ B) (x y : Value) : ((W.setCell ⟨B, 0, none⟩ x).setCell ⟨B, 1, none⟩ y).heap[k]? = W.heap[k]? := by
 rw [Below.heap_setCell _ _ _ _ (by simpa using hk), Below.heap_setCell _ _ _ _ (by simpa using hk)]
theorem XW.set2 {w : World} {l LA LB : Lot} {Bx Ba Bb : Nat} {W : World} (h : XW w l LA LB Bx Ba Bb W) {B : Nat} (h1 : Bx ≠ B) (h2 : Ba ≠ B) (h3 : Bb ≠ B) (hB : w.heap.size ≤ B) (x y : Value) : XW w l LA LB Bx Ba Bb ((W.setCell ⟨B, 0, none⟩ x).setCell ⟨B, 1, none⟩ y) :=
 ⟨(h.be.setCell (p := ⟨B, 0, none⟩) hB x).setCell (p := ⟨B, 1, none⟩) hB y, (xfar2 h1 x y).trans h.bx, (xfar2 h2 x y).trans h.ba, (xfar2 h3 x y).trans h.bb⟩
structure CutOk (l : Lot) (q : ByteArray) (LA LB : Lot) : Prop where
 pa : LA.sized ∧ LA.ok
 pb : LB.sized ∧ LB.ok
 qa : LA.qty = q
 sumq : I (vl q + vl LB.qty) = l.qty
 sumc : I (vl LA.cost + vl LB.cost) = l.cost
 z : vl LA.cost = shareZ (vl l.cost) (vl q) (vl l.qty)
 qp : 0 < vl l.qty
theorem le_of_num {x y : Rat} (h : x ≤ y) : (x - y).num ≤ 0 := by
 have h2 : 0 ≤ (-(x - y)).num := Rat.num_nonneg.2 (by grind)
 rw [Rat.neg_num] at h2
 omega
structure LEV (w : World) (l LA LB : Lot) (q : ByteArray) (Bx Ba Bb : Nat) (P : Rat) (Bp : Nat) (L : Array Bool) (W : World) (s11 s12 s52 s53 s54 s55 s56 s57 s58 s59 s60 s61 : Value) : Prop where
 k0 : L.getD 0 false = true → s53 = .pointer (some ⟨Bx, 5, none⟩)
 k1 : L.getD 1 false = true → s54 = .string l.cost
 k2 : L.getD 2 false = true → s55 = .string q
 k3 : L.getD 3 false = true → s56 = .string (I (vl l.cost * vl q))
 k4 : L.getD 4 false = true → s57 = .pointer (some ⟨Bx, 4, none⟩)
 k5 : L.getD 5 false = true → s58 = .string l.qty
 k6 : L.getD 6 false = true → s59 = .tuple #[.agg #[.string (I P.num), .string (dn P)], .int .i64 0]
 k7 : L.getD 7 false = true → s52 = .tuple #[.agg #[.string (I P.num), .string (dn P)], .int .i64 0]
 k8 : L.getD 8 false = true → s60 = .agg #[.string (I P.num), .string (dn P)]
 k9 : L.getD 9 false = true → s61 = .int .i64 0
 k10 : L.getD 10 false = true → s11 = .pointer (some ⟨Bp, 0, none⟩)
 k12 : L.getD 12 false = true → s12 = .int .i64 0
 g : XW w l LA LB Bx Ba Bb W
 t10 : L.getD 10 false = true → L.getD 11 false = false → W.heap[Bp]? = some (.cells #[.string ⟨#[]⟩, .string ⟨#[]⟩] 42 (0, 0))
 t11 : L.getD 11 false = true → W.heap[Bp]? = some (.cells #[.string (I P.num), .string (dn P)] 42 (0, 0))
 n10 : L.getD 10 false = true → Bx < Bp ∧ Ba < Bp ∧ Bb < Bp
 q11 : L.getD 11 false = true → L.getD 10 false = true
 q6 : L.getD 11 false = true → L.getD 6 false = true
 q3 : L.getD 6 false = true → L.getD 3 false = true
structure LEJ (w : World) (l LA LB : Lot) (q : ByteArray) (Bx Ba Bb : Nat) (P : Rat) (x0 x3 x4 x7 x8 x9 x10 x13 x14 x15 x16 x17 x18 x19 x20 x21 x22 x23 x24 x25 x26 x27 x28 x29 x30 x31 x32 x33 x34 x35 x36 x37 x38 x39 x40 x41 x42 x43 x44 x45 x46 x47 x48 x49 x50 x51 x62 x63 x64 x65 x66 x67 x68 x69 x70 x71 x72 x73 x74 x75 x76 x77 x78 x79 x80 x81 x82 x83 x84 x85 x86 x87 x88 x89 x90 x91 x92 x93 x94 x95 x96 x97 x98 x99 x100 x101 x102 x103 x104 x105 x106 x107 x108 x109 x110 x111 x112 x113 x114 x115 x116 x117 x118 x119 x120 x121 : Value) (L : Array Bool) (a : Act) (W : World) : Prop where
 sz : L.size = 13
 fr : ∃ Bp : Nat, ∃ s11 s12 s52 s53 s54 s55 s56 s57 s58 s59 s60 s61 : Value, a = { tmps := #[x0, .string q, .pointer (some ⟨Bx, 0, none⟩), x3, x4, .pointer (some ⟨Ba, 0, none⟩), .pointer (some ⟨Bb, 0, none⟩), x7, x8, x9, x10, s11, s12, x13, x14, x15, x16, x17, x18, x19, x20, x21, x22, x23, x24, x25, x26, x27, x28, x29, x30, x31, x32, x33, x34, x35, x36, x37, x38, x39, x40, x41, x42, x43, x44, x45, x46, x47, x48, x49, x50, x51, s52, s53, s54, s55, s56, s57, s58, s59, s60, s61, x62, x63, x64, x65, x66, x67, x68, x69, x70, x71, x72, x73, x74, x75, x76, x77, x78, x79, x80, x81, x82, x83, x84, x85, x86, x87, x88, x89, x90, x91, x92, x93, x94, x95, x96, x97, x98, x99, x100, x101, x102, x103, x104, x105, x106, x107, x108, x109, x110, x111, x112, x113, x114, x115, x116, x117, x118, x119, x120, x121], defers := [] } ∧ LEV w l LA LB q Bx Ba Bb P Bp L W s11 s12 s52 s53 s54 s55 s56 s57 s58 s59 s60 s61
structure LDV (w : World) (l LA LB : Lot) (q : ByteArray) (Bx Ba Bb : Nat) (P Q : Rat) (Bp : Nat) (Bo : Nat) (L : Array Bool) (W : World) (s13 s62 s63 s64 s65 s66 : Value) : Prop where
 k0 : L.getD 0 false = true → s62 = .agg #[.string (I P.num), .string (dn P)]
 k1 : L.getD 1 false = true → s63 = .pointer (some ⟨Ba, 5, none⟩)
 k2 : L.getD 2 false = true → s64 = .string LA.cost
 k3 : L.getD 3 false = true → s65 = .agg #[.string (I ((vl LA.cost : Int) : Rat).num), .string (dn ((vl LA.cost : Int) : Rat))]
 k4 : L.getD 4 false = true → s66 = .agg #[.string (I Q.num), .string (dn Q)]
 k5 : L.getD 5 false = true → s13 = .pointer (some ⟨Bo, 0, none⟩)
 g : XW w l LA LB Bx Ba Bb W
 p : W.heap[Bp]? = some (.cells #[.string (I P.num), .string (dn P)] 42 (0, 0))
 t5 : L.getD 5 false = true → L.getD 6 false = false → W.heap[Bo]? = some (.cells #[.string ⟨#[]⟩, .string ⟨#[]⟩] 42 (0, 0))
 t6 : L.getD 6 false = true → W.heap[Bo]? = some (.cells #[.string (I Q.num), .string (dn Q)] 42 (0, 0))
 n5 : L.getD 5 false = true → Bx < Bo ∧ Ba < Bo ∧ Bb < Bo ∧ Bp < Bo
 q6 : L.getD 6 false = true → L.getD 5 false = true
structure LDJ (w : World) (l LA LB : Lot) (q : ByteArray) (Bx Ba Bb : Nat) (P Q : Rat) (Bp : Nat) (x0 x3 x4 x7 x8 x9 x10 x12 x14 x15 x16 x17 x18 x19 x20 x21 x22 x23 x24 x25 x26 x27 x28 x29 x30 x31 x32 x33 x34 x35 x36 x37 x38 x39 x40 x41 x42 x43 x44 x45 x46 x47 x48 x49 x50 x51 x52 x53 x54 x55 x56 x57 x58 x59 x60 x61 x67 x68 x69 x70 x71 x72 x73 x74 x75 x76 x77 x78 x79 x80 x81 x82 x83 x84 x85 x86 x87 x88 x89 x90 x91 x92 x93 x94 x95 x96 x97 x98 x99 x100 x101 x102 x103 x104 x105 x106 x107 x108 x109 x110 x111 x112 x113 x114 x115 x116 x117 x118 x119 x120 x121 : Value) (L : Array Bool) (a : Act) (W : World) : Prop where
 sz : L.size = 7
 fr : ∃ Bo : Nat, ∃ s13 s62 s63 s64 s65 s66 : Value, a = { tmps := #[x0, .string q, .pointer (some ⟨Bx, 0, none⟩), x3, x4, .pointer (some ⟨Ba, 0, none⟩), .pointer (some ⟨Bb, 0, none⟩), x7, x8, x9, x10, .pointer (some ⟨Bp, 0, none⟩), x12, s13, x14, x15, x16, x17, x18, x19, x20, x21, x22, x23, x24, x25, x26, x27, x28, x29, x30, x31, x32, x33, x34, x35, x36, x37, x38, x39, x40, x41, x42, x43, x44, x45, x46, x47, x48, x49, x50, x51, x52, x53, x54, x55, x56, x57, x58, x59, x60, x61, s62, s63, s64, s65, s66, x67, x68, x69, x70, x71, x72, x73, x74, x75, x76, x77, x78, x79, x80, x81, x82, x83, x84, x85, x86, x87, x88, x89, x90, x91, x92, x93, x94, x95, x96, x97, x98, x99, x100, x101, x102, x103, x104, x105, x106, x107, x108, x109, x110, x111, x112, x113, x114, x115, x116, x117, x118, x119, x120, x121], defers := [] } ∧ LDV w l LA LB q Bx Ba Bb P Q Bp Bo L W s13 s62 s63 s64 s65 s66
structure LCV (w : World) (l LA LB : Lot) (q : ByteArray) (Bx Ba Bb Bo : Nat) (O : Rat)  (L : Array Bool) (W : World) (s4 s73 s74 s75 s76 s77 s78 s79 s80 s81 s82 s83 s84 s85 s86 s87 s88 s89 s90 s91 s92 s93 s94 s95 s96 s97 s98 s99 s100 s101 s102 s103 s104 s105 s106 s107 s108 s109 s110 s111 s112 s113 s114 s115 s116 s117 s118 s119 s120 s121 : Value) : Prop where
 k0 : L.getD 0 false = true → s73 = .int .i64 0
 k1 : L.getD 1 false = true → s74 = .bool true
 k2 : L.getD 2 false = true → s75 = .bool true
 k3 : L.getD 3 false = true → s76 = .agg #[.string LA.id, .string LA.inst, .int .i64 LA.acq, .int .i64 LA.opn, .string LA.qty, .string LA.cost, .string LA.used]
 k4 : L.getD 4 false = true → s77 = .int .i64 0
 k5 : L.getD 5 false = true → s78 = .bool true
 k6 : L.getD 6 false = true → s79 = .bool true
 k7 : L.getD 7 false = true → s80 = .bool true
 k8 : L.getD 8 false = true → s81 = .agg #[.string LB.id, .string LB.inst, .int .i64 LB.acq, .int .i64 LB.opn, .string LB.qty, .string LB.cost, .string LB.used]
 k9 : L.getD 9 false = true → s82 = .int .i64 0
 k10 : L.getD 10 false = true → s83 = .bool true
 k11 : L.getD 11 false = true → s84 = .bool true
 k12 : L.getD 12 false = true → s85 = .bool true
 k13 : L.getD 13 false = true → s86 = .pointer (some ⟨Ba, 4, none⟩)
 k14 : L.getD 14 false = true → s87 = .string q
 k15 : L.getD 15 false = true → s88 = .string q
 k16 : L.getD 16 false = true → s89 = .bool true
 k17 : L.getD 17 false = true → s90 = .bool true
 k18 : L.getD 18 false = true → s91 = .bool true
 k19 : L.getD 19 false = true → s92 = .pointer (some ⟨Ba, 4, none⟩)
 k20 : L.getD 20 false = true → s93 = .string q
 k21 : L.getD 21 false = true → s94 = .pointer (some ⟨Bb, 4, none⟩)
 k22 : L.getD 22 false = true → s95 = .string LB.qty
 k23 : L.getD 23 false = true → s96 = .string l.qty
 k24 : L.getD 24 false = true → s97 = .pointer (some ⟨Bx, 4, none⟩)
 k25 : L.getD 25 false = true → s98 = .string l.qty
 k26 : L.getD 26 false = true → s99 = .bool true
 k27 : L.getD 27 false = true → s100 = .bool true
 k28 : L.getD 28 false = true → s101 = .bool true
 k29 : L.getD 29 false = true → s102 = .pointer (some ⟨Ba, 5, none⟩)
 k30 : L.getD 30 false = true → s103 = .string LA.cost
 k31 : L.getD 31 false = true → s104 = .pointer (some ⟨Bb, 5, none⟩)
 k32 : L.getD 32 false = true → s105 = .string LB.cost
 k33 : L.getD 33 false = true → s106 = .string l.cost
 k34 : L.getD 34 false = true → s107 = .pointer (some ⟨Bx, 5, none⟩)
 k35 : L.getD 35 false = true → s108 = .string l.cost
 k36 : L.getD 36 false = true → s109 = .bool true
 k37 : L.getD 37 false = true → s110 = .bool true
 k38 : L.getD 38 false = true → s111 = .bool true
 k39 : L.getD 39 false = true → s112 = .agg #[.string (I O.num), .string (dn O)]
 k40 : L.getD 40 false = true → s113 = .agg #[.string (I O.num), .string (dn O)]
 k41 : L.getD 41 false = true → s114 = .agg #[.string (I (O + O).num), .string (dn (O + O))]
 k42 : L.getD 42 false = true → s115 = .agg #[.string (I (1 : Rat).num), .string (dn (1 : Rat))]
 k43 : L.getD 43 false = true → s116 = .int .i64 (cmpI (O + O - 1).num 0)
 k44 : L.getD 44 false = true → s117 = .bool true
 k45 : L.getD 45 false = true → s118 = .bool true
 k46 : L.getD 46 false = true → s119 = .bool true
 k47 : L.getD 47 false = true → s120 = .bool true
 k48 : L.getD 48 false = true → s121 = .bool true
 k49 : L.getD 49 false = true → s4 = .bool true
 g : XW w l LA LB Bx Ba Bb W
 o : W.heap[Bo]? = some (.cells #[.string (I O.num), .string (dn O)] 42 (0, 0))
structure LCJ (w : World) (l LA LB : Lot) (q : ByteArray) (Bx Ba Bb Bo : Nat) (O : Rat) (x0 x3 x7 x8 x9 x10 x11 x14 x15 x16 x17 x18 x19 x20 x21 x22 x23 x24 x25 x26 x27 x28 x29 x30 x31 x32 x33 x34 x35 x36 x37 x38 x39 x40 x41 x42 x43 x44 x45 x46 x47 x48 x49 x50 x51 x52 x53 x54 x55 x56 x57 x58 x59 x60 x61 x62 x63 x64 x65 x66 x67 x68 x69 x70 x71 x72 : Value) (L : Array Bool) (a : Act) (W : World) : Prop where
 sz : L.size = 50
 fr : ∃ s4 s73 s74 s75 s76 s77 s78 s79 s80 s81 s82 s83 s84 s85 s86 s87 s88 s89 s90 s91 s92 s93 s94 s95 s96 s97 s98 s99 s100 s101 s102 s103 s104 s105 s106 s107 s108 s109 s110 s111 s112 s113 s114 s115 s116 s117 s118 s119 s120 s121 : Value, a = { tmps := #[x0, .string q, .pointer (some ⟨Bx, 0, none⟩), x3, s4, .pointer (some ⟨Ba, 0, none⟩), .pointer (some ⟨Bb, 0, none⟩), x7, x8, x9, x10, x11, .int .i64 0, .pointer (some ⟨Bo, 0, none⟩), x14, x15, x16, x17, x18, x19, x20, x21, x22, x23, x24, x25, x26, x27, x28, x29, x30, x31, x32, x33, x34, x35, x36, x37, x38, x39, x40, x41, x42, x43, x44, x45, x46, x47, x48, x49, x50, x51, x52, x53, x54, x55, x56, x57, x58, x59, x60, x61, x62, x63, x64, x65, x66, x67, x68, x69, x70, x71, x72, s73, s74, s75, s76, s77, s78, s79, s80, s81, s82, s83, s84, s85, s86, s87, s88, s89, s90, s91, s92, s93, s94, s95, s96, s97, s98, s99, s100, s101, s102, s103, s104, s105, s106, s107, s108, s109, s110, s111, s112, s113, s114, s115, s116, s117, s118, s119, s120, s121], defers := [] } ∧ LCV w l LA LB q Bx Ba Bb Bo O  L W s4 s73 s74 s75 s76 s77 s78 s79 s80 s81 s82 s83 s84 s85 s86 s87 s88 s89 s90 s91 s92 s93 s94 s95 s96 s97 s98 s99 s100 s101 s102 s103 s104 s105 s106 s107 s108 s109 s110 s111 s112 s113 s114 s115 s116 s117 s118 s119 s120 s121
set_option maxHeartbeats 16000000 in
set_option maxRecDepth 100000 in
theorem LotCut_gen (l LA LB : Lot) (q : ByteArray) (code : Int) (hti : l.tiny) (hq13 : q.size ≤ 13)
 (hp : ∀ W, Tabs W → Calls Tryz.prog 21 #[l.enc, .string q] W fun e w' => e = .returned (.tuple #[LA.enc, LB.enc, .int .i64 code]) ∧ Below W.heap.size W w')
 (hr : ∀ W, Tabs W → Calls Tryz.prog 22 #[l.enc, .string q] W fun e w' => e = .returned (.tuple #[LA.enc, LB.enc, .int .i64 code]) ∧ Below W.heap.size W w')
 (h0 : code = 0 → CutOk l q LA LB) (w : World) (ht : Tabs w) : Calls Tryz.prog 4 #[l.enc, .string q] w (TruePost19 w) := by
 have HT := Lib.hid ht
 have HP := Lib.hid hp
 have HQ := Lib.hid hr
 have H0 := Lib.hid h0
 obtain ⟨W0, hW0, hB0, hk0⟩ := lbox l w
 have HB0 := Lib.hid hB0
 have HK0 : Hid (LotBox W0 w.heap.size l) := hk0
 have hlen : decide ((13 : Int) < (q.size : Int)) = false := decide_eq_false (by omega)
 have c0 := Lib.cell_of_heap hk0 0
 have c1 := Lib.cell_of_heap hk0 1
 have c2 := Lib.cell_of_heap hk0 2
 have c3 := Lib.cell_of_heap hk0 3
 have c4 := Lib.cell_of_heap hk0 4
 have c5 := Lib.cell_of_heap hk0 5
 have c6 := Lib.cell_of_heap hk0 6
 simp [Lot.cells] at c0 c1 c2 c3 c4 c5 c6
 have HTI := Lib.hid (And.intro hti hq13)
 clear ht hp hr h0 hB0 hk0 hti hq13
 unfold Lot.enc Lot.cells at *
 go_enter Tryz.func4, Tryz.ntmps4
 go_wp2_with fail
 refine (rGreatOne_any l W0).mono ?_
 rintro e w1 ⟨g, rfl, _, b1⟩
 have HB1 := Lib.hid (HB0.out.trans (b1.mono HB0.out.size))
 have HK1 := Lib.hid (HK0.out.below b1)
 clear b1 HK0 HB0 c0 c1 c2 c3 c4 c5 c6 hW0
 cases g
 case true =>
  go_wp2_with fail
  refine (awake19_any _ (HT.out.below HB1.out)).mono ?_
  rintro e wz ⟨rfl, bz⟩
  have HZ := Lib.hid (HB1.out.trans (bz.mono HB1.out.size))
  clear bz
  go_wp2_with fail
  go_ret
  exact ⟨rfl, HZ.out⟩
 have k1 := HK1.out
 have c0 := Lib.cell_of_heap k1 0
 have c1 := Lib.cell_of_heap k1 1
 have c2 := Lib.cell_of_heap k1 2
 have c3 := Lib.cell_of_heap k1 3
 have c4 := Lib.cell_of_heap k1 4
 have c5 := Lib.cell_of_heap k1 5
 have c6 := Lib.cell_of_heap k1 6
 simp [Lot.cells] at c0 c1 c2 c3 c4 c5 c6
 clear k1
 go_wp2_with fail
 refine (HP.out _ (HT.out.below HB1.out)).mono ?_
 rintro e w2 ⟨rfl, b2⟩
 have HB2 := Lib.hid (HB1.out.trans (b2.mono HB1.out.size))
 have HK2 := Lib.hid (HK1.out.below b2)
 clear b2 HB1 HK1 HP c0 c1 c2 c3 c4 c5 c6
 have k2 := HK2.out
 have c0 := Lib.cell_of_heap k2 0
 have c1 := Lib.cell_of_heap k2 1
 have c2 := Lib.cell_of_heap k2 2
 have c3 := Lib.cell_of_heap k2 3
 have c4 := Lib.cell_of_heap k2 4
 have c5 := Lib.cell_of_heap k2 5
 have c6 := Lib.cell_of_heap k2 6
 simp [Lot.cells] at c0 c1 c2 c3 c4 c5 c6
 have hlt2 : w.heap.size < w2.heap.size := HK2.out.lt
 have hlt3 : w.heap.size < w2.heap.size + 1 := by omega
 clear k2
 go_wp2_with fail
 have hb3 : Below w2.heap.size w2 ((w2.alloc (.cells #[.string LA.id, .string LA.inst, .int .i64 LA.acq, .int .i64 LA.opn, .string LA.qty, .string LA.cost, .string LA.used] 36)).alloc (.cells #[.string LB.id, .string LB.inst, .int .i64 LB.acq, .int .i64 LB.opn, .string LB.qty, .string LB.cost, .string LB.used] 36)) := ((Below.refl _ w2).alloc (Nat.le_refl _) _).alloc (by simp) _
 have hxa : LotBox ((w2.alloc (.cells #[.string LA.id, .string LA.inst, .int .i64 LA.acq, .int .i64 LA.opn, .string LA.qty, .string LA.cost, .string LA.used] 36)).alloc (.cells #[.string LB.id, .string LB.inst, .int .i64 LB.acq, .int .i64 LB.opn, .string LB.qty, .string LB.cost, .string LB.used] 36)) w2.heap.size LA := LotBox.below (W := w2.alloc (.cells #[.string LA.id, .string LA.inst, .int .i64 LA.acq, .int .i64 LA.opn, .string LA.qty, .string LA.cost, .string LA.used] 36)) (heap_alloc_new w2 _) ((Below.refl _ _).alloc (Nat.le_refl _) _)
 have hxb : LotBox ((w2.alloc (.cells #[.string LA.id, .string LA.inst, .int .i64 LA.acq, .int .i64 LA.opn, .string LA.qty, .string LA.cost, .string LA.used] 36)).alloc (.cells #[.string LB.id, .string LB.inst, .int .i64 LB.acq, .int .i64 LB.opn, .string LB.qty, .string LB.cost, .string LB.used] 36)) (w2.heap.size + 1) LB := by
  have h := heap_alloc_new (w2.alloc (.cells #[.string LA.id, .string LA.inst, .int .i64 LA.acq, .int .i64 LA.opn, .string LA.qty, .string LA.cost, .string LA.used] 36)) (.cells #[.string LB.id, .string LB.inst, .int .i64 LB.acq, .int .i64 LB.opn, .string LB.qty, .string LB.cost, .string LB.used] 36)
  rw [World.size_alloc] at h
  exact h
 have HB3 := Lib.hid (HB2.out.trans (hb3.mono HB2.out.size))
 have HX3 : Hid (XW w l LA LB w.heap.size w2.heap.size (w2.heap.size + 1) ((w2.alloc (.cells #[.string LA.id, .string LA.inst, .int .i64 LA.acq, .int .i64 LA.opn, .string LA.qty, .string LA.cost, .string LA.used] 36)).alloc (.cells #[.string LB.id, .string LB.inst, .int .i64 LB.acq, .int .i64 LB.opn, .string LB.qty, .string LB.cost, .string LB.used] 36))) := ⟨HB3.out, HK2.out.below hb3, hxa, hxb⟩
 clear hb3 hxa hxb
 refine (HQ.out _ (HT.out.below HB3.out)).mono ?_
 rintro e w3 ⟨rfl, b3⟩
 have HX4 := Lib.hid (HX3.out.below b3)
 have HBX : Hid (w.heap.size ≤ w.heap.size ∧ w.heap.size < w2.heap.size) := ⟨Nat.le_refl _, hlt2⟩
 clear b3 HX3 HB3 HQ HB2 HK2 c0 c1 c2 c3 c4 c5 c6 hlt2 hlt3
 obtain ⟨Bb, hBb⟩ : ∃ Bb, w2.heap.size + 1 = Bb := ⟨_, rfl⟩
 obtain ⟨Ba, hBa⟩ : ∃ Ba, w2.heap.size = Ba := ⟨_, rfl⟩
 have HBX : Hid (w.heap.size ≤ w.heap.size ∧ w.heap.size ≤ Ba) := ⟨by omega, by have := HBX.out; omega⟩
 rw [show XW w l LA LB w.heap.size w2.heap.size (w2.heap.size + 1) w3 = XW w l LA LB w.heap.size Ba Bb w3 from by rw [hBb, hBa]] at HX4
 rw [hBb]
 rw [hBa]
 have k4 := HX4.out.bx
 have k5 := HX4.out.ba
 have k6 := HX4.out.bb
 have lt4 := k4.lt
 have lt5 := k5.lt
 have lt6 := k6.lt
 have lt7 : w.heap.size < w3.heap.size + 1 := by omega
 have lt8 : Ba < w3.heap.size + 1 := by omega
 have lt9 : Bb < w3.heap.size + 1 := by omega
 have c0 := Lib.cell_of_heap k4 0
 have c1 := Lib.cell_of_heap k4 1
 have c2 := Lib.cell_of_heap k4 2
 have c3 := Lib.cell_of_heap k4 3
 have c4 := Lib.cell_of_heap k4 4
 have c5 := Lib.cell_of_heap k4 5
 have c6 := Lib.cell_of_heap k4 6
 simp [Lot.cells] at c0 c1 c2 c3 c4 c5 c6
 have x0 := Lib.cell_of_heap k5 0
 have x1 := Lib.cell_of_heap k5 1
 have x2 := Lib.cell_of_heap k5 2
 have x3 := Lib.cell_of_heap k5 3
 have x4 := Lib.cell_of_heap k5 4
 have x5 := Lib.cell_of_heap k5 5
 have x6 := Lib.cell_of_heap k5 6
 simp [Lot.cells] at x0 x1 x2 x3 x4 x5 x6
 have y0 := Lib.cell_of_heap k6 0
 have y1 := Lib.cell_of_heap k6 1
 have y2 := Lib.cell_of_heap k6 2
 have y3 := Lib.cell_of_heap k6 3
 have y4 := Lib.cell_of_heap k6 4
 have y5 := Lib.cell_of_heap k6 5
 have y6 := Lib.cell_of_heap k6 6
 simp [Lot.cells] at y0 y1 y2 y3 y4 y5 y6
 have hne1 := run_neq_lot LA LA
 have hne2 := run_neq_lot LB LB
 rw [sameB_yes rfl] at hne1 hne2
 clear k4 k5 k6 hBb hBa
 rcases Classical.em (code = 0) with hc0 | hc0
 case inr =>
  have tc : (code == 0) = false := beq_eq_false_iff_ne.2 hc0
  have tc' : (code != 0) = true := by rw [bne, tc]; rfl
  clear hc0 H0
  go_wp2_with fail
  have hbz : Below w.heap.size w (((w3.alloc (.cells #[.string LA.id, .string LA.inst, .int .i64 LA.acq, .int .i64 LA.opn, .string LA.qty, .string LA.cost, .string LA.used] 36)).alloc (.cells #[.string LB.id, .string LB.inst, .int .i64 LB.acq, .int .i64 LB.opn, .string LB.qty, .string LB.cost, .string LB.used] 36))) := (HX4.out.be.alloc HX4.out.be.size _).alloc (by have := HX4.out.be.size; simp; omega) _
  refine (awake19_any _ (HT.out.below hbz)).mono ?_
  rintro e wz ⟨rfl, bz⟩
  have HZ := Lib.hid (hbz.trans (bz.mono hbz.size))
  clear bz hbz
  go_wp2_with fail
  go_ret
  exact ⟨rfl, HZ.out⟩
 subst hc0
 have hok := H0.out rfl
 clear H0
 obtain ⟨hl1, hl2⟩ := HTI.out
 obtain ⟨Ksh, hKsh⟩ : ∃ K, K = 1000 := ⟨_, rfl⟩
 have hbq : (vl q).natAbs < 10 ^ 13 := Nat.lt_of_lt_of_le (vl_lt q) (pow_mono hl2)
 have hbc : (vl l.cost).natAbs < 10 ^ 13 := Nat.lt_of_lt_of_le (vl_lt l.cost) (pow_mono hl1.2.1)
 have hby : (vl l.qty).natAbs < 10 ^ 26 := Nat.lt_of_lt_of_le (vl_lt l.qty) (pow_mono (by have := hl1.1; omega))
 have hbt : (vl l.cost * vl q).natAbs < 10 ^ 26 := by
  rw [Int.natAbs_mul, show (26 : Nat) = 13 + 13 from rfl, Nat.pow_add]
  exact Nat.mul_lt_mul'' hbc hbq
 have hbP : BdQ (shareQ (vl l.cost) (vl q) (vl l.qty)) 26 := BdQ.div hbt hby (by have := hok.qp; omega)
 have hsz1 : LA.cost.size ≤ 1000 := hok.pa.1.2.2.2.1
 have hbZ : BdQ ((vl LA.cost : Int) : Rat) Ksh := BdQ.int (Nat.lt_of_lt_of_le (vl_lt LA.cost) (pow_mono (by omega))) (by omega)
 have hbQ := hbP.sub hbZ
 have hso := share_off (vl l.cost) (vl q) (vl l.qty)
 rw [← hok.z] at hso
 have HMUL : Hid (∀ W, Below w.heap.size w W → Calls Tryz.prog 24 #[.string l.cost, .string q] W fun e wn => e = .returned (.string (I (vl l.cost * vl q))) ∧ Below W.heap.size W wn) := fun W hW => Mul_any l.cost q W (by have := hl1.2.1; omega) (by omega) (HT.out.below hW)
 have hzm : (I (vl l.cost * vl q)).size ≤ 27 := I_size_le hbt
 have HNEW : Hid (∀ W, Below w.heap.size w W → Calls Tryz.prog 23 #[.string (I (vl l.cost * vl q)), .string l.qty] W fun e wn => e = .returned (.tuple #[fenc (shareQ (vl l.cost) (vl q) (vl l.qty)), .int .i64 0]) ∧ Below W.heap.size W wn) := fun W hW => by
  have := fNew_any (I (vl l.cost * vl q)) l.qty W (by omega) (by have := hl1.1; omega) (by have := hok.qp; omega) (HT.out.below hW)
  rw [vl_I] at this
  exact this
 generalize shareQ (vl l.cost) (vl q) (vl l.qty) = P at *
 have HOF : Hid (∀ W, Below w.heap.size w W → Calls Tryz.prog 26 #[.string LA.cost] W fun e wn => e = .returned (fenc ((vl LA.cost : Int) : Rat)) ∧ Below W.heap.size W wn) := fun W hW => fOf_any LA.cost W (by omega) (HT.out.below hW)
 have HSUB : Hid (∀ W, Below w.heap.size w W → Calls Tryz.prog 25 #[fenc P, fenc ((vl LA.cost : Int) : Rat)] W fun e wn => e = .returned (fenc (P - ((vl LA.cost : Int) : Rat))) ∧ Below W.heap.size W wn) := fun W hW => by
  have := fSub_any (I P.num) (dn P) (I ((vl LA.cost : Int) : Rat).num) (dn ((vl LA.cost : Int) : Rat)) W (by have := hbP.num; omega) (by have := hbP.dn; omega) (by have := hbZ.num; omega) (by have := hbZ.dn; omega) (HT.out.below hW)
  rw [fv_enc, fv_enc] at this
  exact this
 have HCA : Hid (∀ W, Below w.heap.size w W → Calls Tryz.prog 29 #[LA.enc] W fun e wn => e = .returned (.int .i64 0) ∧ Below W.heap.size W wn) := fun W hW => lCheck_ok LA hok.pa.1 hok.pa.2 W (HT.out.below hW)
 have HCB : Hid (∀ W, Below w.heap.size w W → Calls Tryz.prog 29 #[LB.enc] W fun e wn => e = .returned (.int .i64 0) ∧ Below W.heap.size W wn) := fun W hW => lCheck_ok LB hok.pb.1 hok.pb.2 W (HT.out.below hW)
 have HAD1 : Hid (∀ W, Below w.heap.size w W → Calls Tryz.prog 30 #[.string q, .string LB.qty] W fun e wn => e = .returned (.string l.qty) ∧ Below W.heap.size W wn) := fun W hW => by
  have := Add_any q LB.qty W (by omega) (by have := hok.pb.1.2.2.1; omega) (HT.out.below hW)
  rw [hok.sumq] at this
  exact this
 have HAD2 : Hid (∀ W, Below w.heap.size w W → Calls Tryz.prog 30 #[.string LA.cost, .string LB.cost] W fun e wn => e = .returned (.string l.cost) ∧ Below W.heap.size W wn) := fun W hW => by
  have := Add_any LA.cost LB.cost W (by omega) (by have := hok.pb.1.2.2.2.1; omega) (HT.out.below hW)
  rw [hok.sumc] at this
  exact this
 have HQA : Hid (LA.qty = q) := hok.qa
 have HF1 : Hid (∀ W, Below w.heap.size w W → Calls Tryz.prog 26 #[.string ⟨#[49]⟩] W fun e wn => e = .returned (fenc (1 : Rat)) ∧ Below W.heap.size W wn) := fun W hW => by
  have := fOf_any ⟨#[49]⟩ W (by decide) (HT.out.below hW)
  rw [show vl ⟨#[49]⟩ = 1 from by decide] at this
  exact this
 have HAW : Hid (∀ W, Below w.heap.size w W → Calls Tryz.prog 10 #[] W fun e wn => e = .returned (.bool true) ∧ Below W.heap.size W wn) := fun W hW => awake19_any W (HT.out.below hW)
 obtain ⟨Q, hQ⟩ : ∃ Q, P - ((vl LA.cost : Int) : Rat) = Q := ⟨_, rfl⟩
 rw [hQ] at HSUB hbQ hso
 obtain ⟨QN, hQN⟩ : ∃ QN, -Q = QN := ⟨_, rfl⟩
 have HCMP : Hid (∀ W, Below w.heap.size w W → Calls Tryz.prog 27 #[fenc Q, .agg #[.string ⟨#[]⟩, .string ⟨#[]⟩]] W fun e wn => e = .returned (.int .i64 (cmpI Q.num 0)) ∧ Below W.heap.size W wn) := fun W hW => by
  have := fCompare_any (I Q.num) (dn Q) ⟨#[]⟩ ⟨#[]⟩ W (by have := hbQ.num; omega) (by have := hbQ.dn; omega) (by decide) (by decide) (HT.out.below hW)
  rw [fv_enc, show fv (⟨#[]⟩ : ByteArray) ⟨#[]⟩ = 0 from by kernel_rfl, show Q - 0 = Q from by grind] at this
  exact this
 have HNG : Hid (∀ W, Below w.heap.size w W → Calls Tryz.prog 28 #[fenc Q] W fun e wn => e = .returned (fenc QN) ∧ Below W.heap.size W wn) := fun W hW => by
  have := fNeg_any (I Q.num) (dn Q) W (by have := hbQ.num; omega) (by have := hbQ.dn; omega) (HT.out.below hW)
  rw [fv_enc, hQN] at this
  exact this
 have hbN : BdQ QN (26 + Ksh + 1) := hQN ▸ hbQ.neg
 have hsN : QN + QN ≤ 1 := by have := hso.2; rw [hQN] at this; exact this
 have hbO : ∀ O, (O = Q ∨ O = QN) → BdQ O (26 + Ksh + 1) := by
  rintro O (rfl | rfl)
  ·exact hbQ
  ·exact hbN
 have HADDO : Hid (∀ O, (O = Q ∨ O = QN) → ∀ W, Below w.heap.size w W → Calls Tryz.prog 31 #[fenc O, fenc O] W fun e wn => e = .returned (fenc (O + O)) ∧ Below W.heap.size W wn) := fun O hO W hW => by
  have hb := hbO O hO
  have := fAdd_any (I O.num) (dn O) (I O.num) (dn O) W (by have := hb.num; omega) (by have := hb.dn; omega) (by have := hb.num; omega) (by have := hb.dn; omega) (HT.out.below hW)
  rw [fv_enc] at this
  exact this
 have HCMPO : Hid (∀ O, (O = Q ∨ O = QN) → ∀ W, Below w.heap.size w W → Calls Tryz.prog 27 #[fenc (O + O), fenc (1 : Rat)] W fun e wn => e = .returned (.int .i64 (cmpI (O + O - 1).num 0)) ∧ Below W.heap.size W wn) := fun O hO W hW => by
  have hb := (hbO O hO).add (hbO O hO)
  have := fCompare_any (I (O + O).num) (dn (O + O)) (I (1 : Rat).num) (dn (1 : Rat)) W (by have := hb.num; omega) (by have := hb.dn; omega) (by decide) (by decide) (HT.out.below hW)
  rw [fv_enc, fv_enc] at this
  exact this
 have HLEO : Hid (∀ O, (O = Q ∨ O = QN) → decide (cmpI (O + O - 1).num 0 ≤ 0) = true) := by
  rintro O (rfl | rfl)
  ·exact decide_eq_true (by rw [cmpI_le]; exact le_of_num hso.1)
  ·exact decide_eq_true (by rw [cmpI_le]; exact le_of_num hsN)
 clear hok hl1 hl2 hbq hbc hby hbt hbP hsz1 hbZ hbQ hso hzm hQ hbO hbN hsN hQN Ksh hKsh
 dsimp only [fenc, Lot.enc, Lot.cells] at HNEW HOF HSUB HCA HCB HF1 HCMP HNG HADDO HCMPO
 go_upto_region 9 with fail
 have hG : XW w l LA LB w.heap.size Ba Bb (((w3.alloc (.cells #[.string LA.id, .string LA.inst, .int .i64 LA.acq, .int .i64 LA.opn, .string LA.qty, .string LA.cost, .string LA.used] 36)).alloc (.cells #[.string LB.id, .string LB.inst, .int .i64 LB.acq, .int .i64 LB.opn, .string LB.qty, .string LB.cost, .string LB.used] 36)).drew) := HX4.out.below (((Below.refl _ w3).alloc (Nat.le_refl _) _).alloc (by simp) _).drew
 clear HX4 HTI c0 x0 y0 c1 x1 y1 c2 x2 y2 c3 x3 y3 c4 x4 y4 c5 x5 y5 c6 x6 y6
 have mixed : Tryz.prog.follows .mixedOrders = true := by kernel_rfl
 refine wp_region_any mixed (wpAny_inv (LEJ w l LA LB q w.heap.size Ba Bb P _ _ _ _ _ _ _ _ _ _ _ _ _ _ _ _ _ _ _ _ _ _ _ _ _ _ _ _ _ _ _ _ _ _ _ _ _ _ _ _ _ _ _ _ _ _ _ _ _ _ _ _ _ _ _ _ _ _ _ _ _ _ _ _ _ _ _ _ _ _ _ _ _ _ _ _ _ _ _ _ _ _ _ _ _ _ _ _ _ _ _ _ _ _ _ _ _ _ _ _ _ _ _ _ _ _) ?stLE ?dnLE _ _ _ _ ⟨by simp, ⟨0, _, _, _, _, _, _, _, _, _, _, _, _, rfl, fun h => by simp at h, fun h => by simp at h, fun h => by simp at h, fun h => by simp at h, fun h => by simp at h, fun h => by simp at h, fun h => by simp at h, fun h => by simp at h, fun h => by simp at h, fun h => by simp at h, fun h => by simp at h, fun h => by simp at h, hG, fun h => by simp at h, fun h => by simp at h, fun h => by simp at h, fun h => by simp at h, fun h => by simp at h, fun h => by simp at h⟩⟩ (by decide))
 case dnLE =>
  intro L a w' hj hr
  have all : ∀ i, i < 13 → L.getD i false = true := by
   intro i
   induction i using Nat.strongRecOn with
   | ind i ih =>
     intro hi
     refine (off_or_on L i).resolve_left fun h => ?_
     refine List.eq_nil_iff_forall_not_mem.1 hr i (ready_of (by rw [hj.sz]; exact hi) h (Array.getElem?_eq_getElem (by simpa using hi)) (fun e he hbd => ih e.on ?_ ?_))
     ·rcases (show i = 0 ∨ i = 1 ∨ i = 2 ∨ i = 3 ∨ i = 4 ∨ i = 5 ∨ i = 6 ∨ i = 7 ∨ i = 8 ∨ i = 9 ∨ i = 10 ∨ i = 11 ∨ i = 12 from by omega) with rfl | rfl | rfl | rfl | rfl | rfl | rfl | rfl | rfl | rfl | rfl | rfl | rfl
      ·simp at he
      ·simp at he
       subst he
       first | decide | (exact absurd hbd (by decide))
      ·simp at he
      ·simp at he
       rcases he with rfl | rfl
       all_goals first | decide | (exact absurd hbd (by decide))
      ·simp at he
      ·simp at he
       subst he
       first | decide | (exact absurd hbd (by decide))
      ·simp at he
       rcases he with rfl | rfl | rfl
       all_goals first | decide | (exact absurd hbd (by decide))
      ·simp at he
       subst he
       first | decide | (exact absurd hbd (by decide))
      ·simp at he
       subst he
       first | decide | (exact absurd hbd (by decide))
      ·simp at he
       rcases he with rfl | rfl
       all_goals first | decide | (exact absurd hbd (by decide))
      ·simp at he
      ·simp at he
       rcases he with rfl | rfl | rfl | rfl | rfl | rfl | rfl | rfl | rfl | rfl | rfl | rfl | rfl | rfl
       all_goals first | decide | (exact absurd hbd (by decide))
      ·simp at he
       rcases he with rfl | rfl | rfl | rfl | rfl | rfl | rfl | rfl | rfl | rfl | rfl | rfl | rfl | rfl
       all_goals first | decide | (exact absurd hbd (by decide))
     ·rcases (show i = 0 ∨ i = 1 ∨ i = 2 ∨ i = 3 ∨ i = 4 ∨ i = 5 ∨ i = 6 ∨ i = 7 ∨ i = 8 ∨ i = 9 ∨ i = 10 ∨ i = 11 ∨ i = 12 from by omega) with rfl | rfl | rfl | rfl | rfl | rfl | rfl | rfl | rfl | rfl | rfl | rfl | rfl
      ·simp at he
      ·simp at he
       subst he
       first | decide | (exact absurd hbd (by decide))
      ·simp at he
      ·simp at he
       rcases he with rfl | rfl
       all_goals first | decide | (exact absurd hbd (by decide))
      ·simp at he
      ·simp at he
       subst he
       first | decide | (exact absurd hbd (by decide))
      ·simp at he
       rcases he with rfl | rfl | rfl
       all_goals first | decide | (exact absurd hbd (by decide))
      ·simp at he
       subst he
       first | decide | (exact absurd hbd (by decide))
      ·simp at he
       subst he
       first | decide | (exact absurd hbd (by decide))
      ·simp at he
       rcases he with rfl | rfl
       all_goals first | decide | (exact absurd hbd (by decide))
      ·simp at he
      ·simp at he
       rcases he with rfl | rfl | rfl | rfl | rfl | rfl | rfl | rfl | rfl | rfl | rfl | rfl | rfl | rfl
       all_goals first | decide | (exact absurd hbd (by decide))
      ·simp at he
       rcases he with rfl | rfl | rfl | rfl | rfl | rfl | rfl | rfl | rfl | rfl | rfl | rfl | rfl | rfl
       all_goals first | decide | (exact absurd hbd (by decide))
  obtain ⟨Bp, s11, s12, s52, s53, s54, s55, s56, s57, s58, s59, s60, s61, rfl, hv⟩ := hj.fr
  have e12 := hv.k12 (all 12 (by omega)); have e11 := hv.k10 (all 10 (by omega))
  subst e12 e11
  have HG9 := Lib.hid (And.intro hv.g (And.intro (hv.t11 (all 11 (by omega))) (hv.n10 (all 10 (by omega)))))
  clear all hv hj hr
  dsimp only
  obtain ⟨hg9, ht11, hn10⟩ := HG9.out
  clear HG9
  go_upto_region 10 with fail
  have hG := hg9.below (Below.refl _ _).drew
  have hP : (w'.drew).heap[Bp]? = some (.cells #[.string (I P.num), .string (dn P)] 42 (0, 0)) := ht11
  clear hg9 ht11 hn10
  have mixed : Tryz.prog.follows .mixedOrders = true := by kernel_rfl
  refine wp_region_any mixed (wpAny_inv (LDJ w l LA LB q w.heap.size Ba Bb P Q _ _ _ _ _ _ _ _ _ _ _ _ _ _ _ _ _ _ _ _ _ _ _ _ _ _ _ _ _ _ _ _ _ _ _ _ _ _ _ _ _ _ _ _ _ _ _ _ _ _ _ _ _ _ _ _ _ _ _ _ _ _ _ _ _ _ _ _ _ _ _ _ _ _ _ _ _ _ _ _ _ _ _ _ _ _ _ _ _ _ _ _ _ _ _ _ _ _ _ _ _ _ _ _ _ _ _ _ _ _ _ _) ?stLD ?dnLD _ _ _ _ ⟨by simp, ⟨0, _, _, _, _, _, _, rfl, fun h => by simp at h, fun h => by simp at h, fun h => by simp at h, fun h => by simp at h, fun h => by simp at h, fun h => by simp at h, hG, hP, fun h => by simp at h, fun h => by simp at h, fun h => by simp at h, fun h => by simp at h⟩⟩ (by decide))
  case dnLD =>
   intro L a w' hj hr
   have all : ∀ i, i < 7 → L.getD i false = true := by
    intro i
    induction i using Nat.strongRecOn with
    | ind i ih =>
      intro hi
      refine (off_or_on L i).resolve_left fun h => ?_
      refine List.eq_nil_iff_forall_not_mem.1 hr i (ready_of (by rw [hj.sz]; exact hi) h (Array.getElem?_eq_getElem (by simpa using hi)) (fun e he hbd => ih e.on ?_ ?_))
      ·rcases (show i = 0 ∨ i = 1 ∨ i = 2 ∨ i = 3 ∨ i = 4 ∨ i = 5 ∨ i = 6 from by omega) with rfl | rfl | rfl | rfl | rfl | rfl | rfl
       ·simp at he
       ·simp at he
       ·simp at he
        subst he
        first | decide | (exact absurd hbd (by decide))
       ·simp at he
        subst he
        first | decide | (exact absurd hbd (by decide))
       ·simp at he
        rcases he with rfl | rfl | rfl
        all_goals first | decide | (exact absurd hbd (by decide))
       ·simp at he
       ·simp at he
        rcases he with rfl | rfl | rfl | rfl | rfl | rfl | rfl | rfl | rfl
        all_goals first | decide | (exact absurd hbd (by decide))
      ·rcases (show i = 0 ∨ i = 1 ∨ i = 2 ∨ i = 3 ∨ i = 4 ∨ i = 5 ∨ i = 6 from by omega) with rfl | rfl | rfl | rfl | rfl | rfl | rfl
       ·simp at he
       ·simp at he
       ·simp at he
        subst he
        first | decide | (exact absurd hbd (by decide))
       ·simp at he
        subst he
        first | decide | (exact absurd hbd (by decide))
       ·simp at he
        rcases he with rfl | rfl | rfl
        all_goals first | decide | (exact absurd hbd (by decide))
       ·simp at he
       ·simp at he
        rcases he with rfl | rfl | rfl | rfl | rfl | rfl | rfl | rfl | rfl
        all_goals first | decide | (exact absurd hbd (by decide))
   obtain ⟨Bo, s13, s62, s63, s64, s65, s66, rfl, hv⟩ := hj.fr
   have e5 := hv.k5 (all 5 (by omega))
   subst e5
   have HG10 := Lib.hid (And.intro hv.g (And.intro (hv.t6 (all 6 (by omega))) (hv.n5 (all 5 (by omega)))))
   clear all hv hj hr
   dsimp only
   obtain ⟨hg10, ht6, hn5⟩ := HG10.out
   have HXX := Lib.hid hg10
   have hto := ht6
   have HTO := Lib.hid ht6
   have HNO := Lib.hid hn5
   clear hg10 ht6 hn5 HG10
   have n0 := Lib.cell_of_heap hto 0
   have n1 := Lib.cell_of_heap hto 1
   simp at n0 n1
   clear hto
   go_wp2_with fail
   refine (HCMP.out _ HXX.out.be).mono ?_
   rintro e wc ⟨rfl, bc⟩
   have HXX2 := Lib.hid (HXX.out.below bc)
   have HTO2 := Lib.hid ((bc.block _ (Array.getElem?_eq_some_iff.1 HTO.out).1).trans HTO.out)
   clear bc HXX HTO n0 n1 HCMP
   have hto := HTO2.out
   have n0 := Lib.cell_of_heap hto 0
   have n1 := Lib.cell_of_heap hto 1
   simp at n0 n1
   have f0 := Lib.frozen_of_heap hto 0
   have f1 := Lib.frozen_of_heap hto 1
   clear hto
   rcases Classical.em (Q.num < 0) with hneg | hneg
   case' inl =>
    have t1 : decide (cmpI Q.num 0 < 0) = true := decide_eq_true (by rw [cmpI_lt]; exact hneg)
    have HNEG := Lib.hid hneg
    clear hneg
    go_wp2_with fail
    refine (HNG.out _ HXX2.out.be).mono ?_
    rintro e wd ⟨rfl, bd⟩
    have HXX3 := Lib.hid (HXX2.out.below bd)
    have HTO3 := Lib.hid ((bd.block _ (Array.getElem?_eq_some_iff.1 HTO2.out).1).trans HTO2.out)
    clear bd HXX2 HTO2 n0 n1 f0 f1 HNG
    have hto := HTO3.out
    have n0 := Lib.cell_of_heap hto 0
    have n1 := Lib.cell_of_heap hto 1
    simp at n0 n1
    have f0 := Lib.frozen_of_heap hto 0
    have f1 := Lib.frozen_of_heap hto 1
    clear hto t1
    go_upto_region 13 with fail
    have hwp : w.heap.size ≤ Bo := by have := HBX.out; have := HNO.out; omega
    have hnn := HNO.out
    have hG := (HXX3.out.set2 (B := Bo) (by omega) (by omega) (by omega) hwp (.string (I QN.num)) (.string (dn QN))).below (Below.refl _ _).drew
    have hO : (((wd.setCell ⟨Bo, 0, none⟩ (.string (I QN.num))).setCell ⟨Bo, 1, none⟩ (.string (dn QN))).drew).heap[Bo]? = some (.cells #[.string (I QN.num), .string (dn QN)] 42 (0, 0)) := set2 HTO3.out _ _
    clear n0 n1 f0 f1 hnn hwp HXX3 HTO3
    have HFA := Lib.hid (HADDO.out QN (.inr rfl))
    have HFC := Lib.hid (HCMPO.out QN (.inr rfl))
    have HLE := Lib.hid (HLEO.out QN (.inr rfl))
   case' inr =>
    have t1 : decide (cmpI Q.num 0 < 0) = false := decide_eq_false (by rw [cmpI_lt]; exact hneg)
    clear hneg
    go_upto_region 13 with fail
    have hG := HXX2.out.below (Below.refl _ _).drew
    have hO : (wc.drew).heap[Bo]? = some (.cells #[.string (I Q.num), .string (dn Q)] 42 (0, 0)) := HTO2.out
    clear n0 n1 f0 f1 HXX2 HTO2
    have HFA := Lib.hid (HADDO.out Q (.inl rfl))
    have HFC := Lib.hid (HCMPO.out Q (.inl rfl))
    have HLE := Lib.hid (HLEO.out Q (.inl rfl))
   all_goals
    have mixed : Tryz.prog.follows .mixedOrders = true := by kernel_rfl
    refine wp_region_any mixed (wpAny_inv (LCJ w l LA LB q w.heap.size Ba Bb _ _ _ _ _ _ _ _ _ _ _ _ _ _ _ _ _ _ _ _ _ _ _ _ _ _ _ _ _ _ _ _ _ _ _ _ _ _ _ _ _ _ _ _ _ _ _ _ _ _ _ _ _ _ _ _ _ _ _ _ _ _ _ _ _ _ _ _) ?stLC ?dnLC _ _ _ _ ⟨by simp, ⟨_, _, _, _, _, _, _, _, _, _, _, _, _, _, _, _, _, _, _, _, _, _, _, _, _, _, _, _, _, _, _, _, _, _, _, _, _, _, _, _, _, _, _, _, _, _, _, _, _, _, rfl, fun h => by simp at h, fun h => by simp at h, fun h => by simp at h, fun h => by simp at h, fun h => by simp at h, fun h => by simp at h, fun h => by simp at h, fun h => by simp at h, fun h => by simp at h, fun h => by simp at h, fun h => by simp at h, fun h => by simp at h, fun h => by simp at h, fun h => by simp at h, fun h => by simp at h, fun h => by simp at h, fun h => by simp at h, fun h => by simp at h, fun h => by simp at h, fun h => by simp at h, fun h => by simp at h, fun h => by simp at h, fun h => by simp at h, fun h => by simp at h, fun h => by simp at h, fun h => by simp at h, fun h => by simp at h, fun h => by simp at h, fun h => by simp at h, fun h => by simp at h, fun h => by simp at h, fun h => by simp at h, fun h => by simp at h, fun h => by simp at h, fun h => by simp at h, fun h => by simp at h, fun h => by simp at h, fun h => by simp at h, fun h => by simp at h, fun h => by simp at h, fun h => by simp at h, fun h => by simp at h, fun h => by simp at h, fun h => by simp at h, fun h => by simp at h, fun h => by simp at h, fun h => by simp at h, fun h => by simp at h, fun h => by simp at h, fun h => by simp at h, hG, hO⟩⟩ (by decide))
    case dnLC =>
     intro L a w' hj hr
     have all : ∀ i, i < 50 → L.getD i false = true := by
      intro i
      induction i using Nat.strongRecOn with
      | ind i ih =>
        intro hi
        refine (off_or_on L i).resolve_left fun h => ?_
        refine List.eq_nil_iff_forall_not_mem.1 hr i (ready_of (by rw [hj.sz]; exact hi) h (Array.getElem?_eq_getElem (by simpa using hi)) (fun e he hbd => ih e.on ?_ ?_))
        ·rcases (show i = 0 ∨ i = 1 ∨ i = 2 ∨ i = 3 ∨ i = 4 ∨ i = 5 ∨ i = 6 ∨ i = 7 ∨ i = 8 ∨ i = 9 ∨ i = 10 ∨ i = 11 ∨ i = 12 ∨ i = 13 ∨ i = 14 ∨ i = 15 ∨ i = 16 ∨ i = 17 ∨ i = 18 ∨ i = 19 ∨ i = 20 ∨ i = 21 ∨ i = 22 ∨ i = 23 ∨ i = 24 ∨ i = 25 ∨ i = 26 ∨ i = 27 ∨ i = 28 ∨ i = 29 ∨ i = 30 ∨ i = 31 ∨ i = 32 ∨ i = 33 ∨ i = 34 ∨ i = 35 ∨ i = 36 ∨ i = 37 ∨ i = 38 ∨ i = 39 ∨ i = 40 ∨ i = 41 ∨ i = 42 ∨ i = 43 ∨ i = 44 ∨ i = 45 ∨ i = 46 ∨ i = 47 ∨ i = 48 ∨ i = 49 from by omega) with rfl | rfl | rfl | rfl | rfl | rfl | rfl | rfl | rfl | rfl | rfl | rfl | rfl | rfl | rfl | rfl | rfl | rfl | rfl | rfl | rfl | rfl | rfl | rfl | rfl | rfl | rfl | rfl | rfl | rfl | rfl | rfl | rfl | rfl | rfl | rfl | rfl | rfl | rfl | rfl | rfl | rfl | rfl | rfl | rfl | rfl | rfl | rfl | rfl | rfl
         ·simp at he
         ·simp at he
          subst he
          first | decide | (exact absurd hbd (by decide))
         ·simp at he
          subst he
          first | decide | (exact absurd hbd (by decide))
         ·simp at he
          subst he
          first | decide | (exact absurd hbd (by decide))
         ·simp at he
          rcases he with rfl | rfl | rfl
          all_goals first | decide | (exact absurd hbd (by decide))
         ·simp at he
          rcases he with rfl | rfl
          all_goals first | decide | (exact absurd hbd (by decide))
         ·simp at he
          rcases he with rfl | rfl
          all_goals first | decide | (exact absurd hbd (by decide))
         ·simp at he
          rcases he with rfl | rfl
          all_goals first | decide | (exact absurd hbd (by decide))
         ·simp at he
          subst he
          first | decide | (exact absurd hbd (by decide))
         ·simp at he
          rcases he with rfl | rfl | rfl
          all_goals first | decide | (exact absurd hbd (by decide))
         ·simp at he
          rcases he with rfl | rfl
          all_goals first | decide | (exact absurd hbd (by decide))
         ·simp at he
          rcases he with rfl | rfl
          all_goals first | decide | (exact absurd hbd (by decide))
         ·simp at he
          rcases he with rfl | rfl
          all_goals first | decide | (exact absurd hbd (by decide))
         ·simp at he
          subst he
          first | decide | (exact absurd hbd (by decide))
         ·simp at he
          rcases he with rfl | rfl
          all_goals first | decide | (exact absurd hbd (by decide))
         ·simp at he
          subst he
          first | decide | (exact absurd hbd (by decide))
         ·simp at he
          rcases he with rfl | rfl | rfl
          all_goals first | decide | (exact absurd hbd (by decide))
         ·simp at he
          rcases he with rfl | rfl
          all_goals first | decide | (exact absurd hbd (by decide))
         ·simp at he
          rcases he with rfl | rfl
          all_goals first | decide | (exact absurd hbd (by decide))
         ·simp at he
          subst he
          first | decide | (exact absurd hbd (by decide))
         ·simp at he
          rcases he with rfl | rfl
          all_goals first | decide | (exact absurd hbd (by decide))
         ·simp at he
          subst he
          first | decide | (exact absurd hbd (by decide))
         ·simp at he
          rcases he with rfl | rfl
          all_goals first | decide | (exact absurd hbd (by decide))
         ·simp at he
          rcases he with rfl | rfl | rfl | rfl
          all_goals first | decide | (exact absurd hbd (by decide))
         ·simp at he
          subst he
          first | decide | (exact absurd hbd (by decide))
         ·simp at he
          rcases he with rfl | rfl
          all_goals first | decide | (exact absurd hbd (by decide))
         ·simp at he
          rcases he with rfl | rfl | rfl
          all_goals first | decide | (exact absurd hbd (by decide))
         ·simp at he
          rcases he with rfl | rfl
          all_goals first | decide | (exact absurd hbd (by decide))
         ·simp at he
          rcases he with rfl | rfl
          all_goals first | decide | (exact absurd hbd (by decide))
         ·simp at he
          subst he
          first | decide | (exact absurd hbd (by decide))
         ·simp at he
          rcases he with rfl | rfl
          all_goals first | decide | (exact absurd hbd (by decide))
         ·simp at he
          subst he
          first | decide | (exact absurd hbd (by decide))
         ·simp at he
          rcases he with rfl | rfl
          all_goals first | decide | (exact absurd hbd (by decide))
         ·simp at he
          rcases he with rfl | rfl | rfl | rfl
          all_goals first | decide | (exact absurd hbd (by decide))
         ·simp at he
          subst he
          first | decide | (exact absurd hbd (by decide))
         ·simp at he
          rcases he with rfl | rfl
          all_goals first | decide | (exact absurd hbd (by decide))
         ·simp at he
          rcases he with rfl | rfl | rfl
          all_goals first | decide | (exact absurd hbd (by decide))
         ·simp at he
          rcases he with rfl | rfl
          all_goals first | decide | (exact absurd hbd (by decide))
         ·simp at he
          rcases he with rfl | rfl
          all_goals first | decide | (exact absurd hbd (by decide))
         ·simp at he
          subst he
          first | decide | (exact absurd hbd (by decide))
         ·simp at he
          subst he
          first | decide | (exact absurd hbd (by decide))
         ·simp at he
          rcases he with rfl | rfl | rfl | rfl
          all_goals first | decide | (exact absurd hbd (by decide))
         ·simp at he
          rcases he with rfl | rfl
          all_goals first | decide | (exact absurd hbd (by decide))
         ·simp at he
          rcases he with rfl | rfl | rfl | rfl
          all_goals first | decide | (exact absurd hbd (by decide))
         ·simp at he
          rcases he with rfl | rfl
          all_goals first | decide | (exact absurd hbd (by decide))
         ·simp at he
          rcases he with rfl | rfl
          all_goals first | decide | (exact absurd hbd (by decide))
         ·simp at he
          rcases he with rfl | rfl
          all_goals first | decide | (exact absurd hbd (by decide))
         ·simp at he
          rcases he with rfl | rfl
          all_goals first | decide | (exact absurd hbd (by decide))
         ·simp at he
          rcases he with rfl | rfl
          all_goals first | decide | (exact absurd hbd (by decide))
         ·simp at he
          rcases he with rfl | rfl | rfl | rfl | rfl | rfl | rfl | rfl | rfl | rfl | rfl | rfl | rfl | rfl | rfl | rfl | rfl | rfl | rfl | rfl | rfl | rfl | rfl | rfl | rfl | rfl | rfl | rfl | rfl | rfl | rfl | rfl | rfl | rfl | rfl | rfl | rfl | rfl | rfl | rfl | rfl | rfl | rfl | rfl | rfl | rfl | rfl | rfl | rfl | rfl | rfl
          all_goals first | decide | (exact absurd hbd (by decide))
        ·rcases (show i = 0 ∨ i = 1 ∨ i = 2 ∨ i = 3 ∨ i = 4 ∨ i = 5 ∨ i = 6 ∨ i = 7 ∨ i = 8 ∨ i = 9 ∨ i = 10 ∨ i = 11 ∨ i = 12 ∨ i = 13 ∨ i = 14 ∨ i = 15 ∨ i = 16 ∨ i = 17 ∨ i = 18 ∨ i = 19 ∨ i = 20 ∨ i = 21 ∨ i = 22 ∨ i = 23 ∨ i = 24 ∨ i = 25 ∨ i = 26 ∨ i = 27 ∨ i = 28 ∨ i = 29 ∨ i = 30 ∨ i = 31 ∨ i = 32 ∨ i = 33 ∨ i = 34 ∨ i = 35 ∨ i = 36 ∨ i = 37 ∨ i = 38 ∨ i = 39 ∨ i = 40 ∨ i = 41 ∨ i = 42 ∨ i = 43 ∨ i = 44 ∨ i = 45 ∨ i = 46 ∨ i = 47 ∨ i = 48 ∨ i = 49 from by omega) with rfl | rfl | rfl | rfl | rfl | rfl | rfl | rfl | rfl | rfl | rfl | rfl | rfl | rfl | rfl | rfl | rfl | rfl | rfl | rfl | rfl | rfl | rfl | rfl | rfl | rfl | rfl | rfl | rfl | rfl | rfl | rfl | rfl | rfl | rfl | rfl | rfl | rfl | rfl | rfl | rfl | rfl | rfl | rfl | rfl | rfl | rfl | rfl | rfl | rfl
         ·simp at he
         ·simp at he
          subst he
          first | decide | (exact absurd hbd (by decide))
         ·simp at he
          subst he
          first | decide | (exact absurd hbd (by decide))
         ·simp at he
          subst he
          first | decide | (exact absurd hbd (by decide))
         ·simp at he
          rcases he with rfl | rfl | rfl
          all_goals first | decide | (exact absurd hbd (by decide))
         ·simp at he
          rcases he with rfl | rfl
          all_goals first | decide | (exact absurd hbd (by decide))
         ·simp at he
          rcases he with rfl | rfl
          all_goals first | decide | (exact absurd hbd (by decide))
         ·simp at he
          rcases he with rfl | rfl
          all_goals first | decide | (exact absurd hbd (by decide))
         ·simp at he
          subst he
          first | decide | (exact absurd hbd (by decide))
         ·simp at he
          rcases he with rfl | rfl | rfl
          all_goals first | decide | (exact absurd hbd (by decide))
         ·simp at he
          rcases he with rfl | rfl
          all_goals first | decide | (exact absurd hbd (by decide))
         ·simp at he
          rcases he with rfl | rfl
          all_goals first | decide | (exact absurd hbd (by decide))
         ·simp at he
          rcases he with rfl | rfl
          all_goals first | decide | (exact absurd hbd (by decide))
         ·simp at he
          subst he
          first | decide | (exact absurd hbd (by decide))
         ·simp at he
          rcases he with rfl | rfl
          all_goals first | decide | (exact absurd hbd (by decide))
         ·simp at he
          subst he
          first | decide | (exact absurd hbd (by decide))
         ·simp at he
          rcases he with rfl | rfl | rfl
          all_goals first | decide | (exact absurd hbd (by decide))
         ·simp at he
          rcases he with rfl | rfl
          all_goals first | decide | (exact absurd hbd (by decide))
         ·simp at he
          rcases he with rfl | rfl
          all_goals first | decide | (exact absurd hbd (by decide))
         ·simp at he
          subst he
          first | decide | (exact absurd hbd (by decide))
         ·simp at he
          rcases he with rfl | rfl
          all_goals first | decide | (exact absurd hbd (by decide))
         ·simp at he
          subst he
          first | decide | (exact absurd hbd (by decide))
         ·simp at he
          rcases he with rfl | rfl
          all_goals first | decide | (exact absurd hbd (by decide))
         ·simp at he
          rcases he with rfl | rfl | rfl | rfl
          all_goals first | decide | (exact absurd hbd (by decide))
         ·simp at he
          subst he
          first | decide | (exact absurd hbd (by decide))
         ·simp at he
          rcases he with rfl | rfl
          all_goals first | decide | (exact absurd hbd (by decide))
         ·simp at he
          rcases he with rfl | rfl | rfl
          all_goals first | decide | (exact absurd hbd (by decide))
         ·simp at he
          rcases he with rfl | rfl
          all_goals first | decide | (exact absurd hbd (by decide))
         ·simp at he
          rcases he with rfl | rfl
          all_goals first | decide | (exact absurd hbd (by decide))
         ·simp at he
          subst he
          first | decide | (exact absurd hbd (by decide))
         ·simp at he
          rcases he with rfl | rfl
          all_goals first | decide | (exact absurd hbd (by decide))
         ·simp at he
          subst he
          first | decide | (exact absurd hbd (by decide))
         ·simp at he
          rcases he with rfl | rfl
          all_goals first | decide | (exact absurd hbd (by decide))
         ·simp at he
          rcases he with rfl | rfl | rfl | rfl
          all_goals first | decide | (exact absurd hbd (by decide))
         ·simp at he
          subst he
          first | decide | (exact absurd hbd (by decide))
         ·simp at he
          rcases he with rfl | rfl
          all_goals first | decide | (exact absurd hbd (by decide))
         ·simp at he
          rcases he with rfl | rfl | rfl
          all_goals first | decide | (exact absurd hbd (by decide))
         ·simp at he
          rcases he with rfl | rfl
          all_goals first | decide | (exact absurd hbd (by decide))
         ·simp at he
          rcases he with rfl | rfl
          all_goals first | decide | (exact absurd hbd (by decide))
         ·simp at he
          subst he
          first | decide | (exact absurd hbd (by decide))
         ·simp at he
          subst he
          first | decide | (exact absurd hbd (by decide))
         ·simp at he
          rcases he with rfl | rfl | rfl | rfl
          all_goals first | decide | (exact absurd hbd (by decide))
         ·simp at he
          rcases he with rfl | rfl
          all_goals first | decide | (exact absurd hbd (by decide))
         ·simp at he
          rcases he with rfl | rfl | rfl | rfl
          all_goals first | decide | (exact absurd hbd (by decide))
         ·simp at he
          rcases he with rfl | rfl
          all_goals first | decide | (exact absurd hbd (by decide))
         ·simp at he
          rcases he with rfl | rfl
          all_goals first | decide | (exact absurd hbd (by decide))
         ·simp at he
          rcases he with rfl | rfl
          all_goals first | decide | (exact absurd hbd (by decide))
         ·simp at he
          rcases he with rfl | rfl
          all_goals first | decide | (exact absurd hbd (by decide))
         ·simp at he
          rcases he with rfl | rfl
          all_goals first | decide | (exact absurd hbd (by decide))
         ·simp at he
          rcases he with rfl | rfl | rfl | rfl | rfl | rfl | rfl | rfl | rfl | rfl | rfl | rfl | rfl | rfl | rfl | rfl | rfl | rfl | rfl | rfl | rfl | rfl | rfl | rfl | rfl | rfl | rfl | rfl | rfl | rfl | rfl | rfl | rfl | rfl | rfl | rfl | rfl | rfl | rfl | rfl | rfl | rfl | rfl | rfl | rfl | rfl | rfl | rfl | rfl | rfl | rfl
          all_goals first | decide | (exact absurd hbd (by decide))
     obtain ⟨s4, s73, s74, s75, s76, s77, s78, s79, s80, s81, s82, s83, s84, s85, s86, s87, s88, s89, s90, s91, s92, s93, s94, s95, s96, s97, s98, s99, s100, s101, s102, s103, s104, s105, s106, s107, s108, s109, s110, s111, s112, s113, s114, s115, s116, s117, s118, s119, s120, s121, rfl, hv⟩ := hj.fr
     have e4 := hv.k49 (all 49 (by omega))
     subst e4
     have HF := Lib.hid hv.g.be
     clear all hv hj hr
     dsimp only
     (first | go_wp2_with fail | skip)
     go_ret
     exact ⟨rfl, HF.out⟩
    case stLC =>
     intro L a w' hj i hi
     obtain ⟨hun, o, ho, hall⟩ := mem_ready.1 hi
     have hoff := getD_off hun
     have hlt := (Array.getElem?_eq_some_iff.1 ho).1
     simp at hlt
     obtain ⟨s4, s73, s74, s75, s76, s77, s78, s79, s80, s81, s82, s83, s84, s85, s86, s87, s88, s89, s90, s91, s92, s93, s94, s95, s96, s97, s98, s99, s100, s101, s102, s103, s104, s105, s106, s107, s108, s109, s110, s111, s112, s113, s114, s115, s116, s117, s118, s119, s120, s121, rfl, hv⟩ := hj.fr
     have HV := Lib.hid hv
     have HJ := Lib.hid hj
     clear hv hj
     rcases (show i = 0 ∨ i = 1 ∨ i = 2 ∨ i = 3 ∨ i = 4 ∨ i = 5 ∨ i = 6 ∨ i = 7 ∨ i = 8 ∨ i = 9 ∨ i = 10 ∨ i = 11 ∨ i = 12 ∨ i = 13 ∨ i = 14 ∨ i = 15 ∨ i = 16 ∨ i = 17 ∨ i = 18 ∨ i = 19 ∨ i = 20 ∨ i = 21 ∨ i = 22 ∨ i = 23 ∨ i = 24 ∨ i = 25 ∨ i = 26 ∨ i = 27 ∨ i = 28 ∨ i = 29 ∨ i = 30 ∨ i = 31 ∨ i = 32 ∨ i = 33 ∨ i = 34 ∨ i = 35 ∨ i = 36 ∨ i = 37 ∨ i = 38 ∨ i = 39 ∨ i = 40 ∨ i = 41 ∨ i = 42 ∨ i = 43 ∨ i = 44 ∨ i = 45 ∨ i = 46 ∨ i = 47 ∨ i = 48 ∨ i = 49 from by omega) with rfl | rfl | rfl | rfl | rfl | rfl | rfl | rfl | rfl | rfl | rfl | rfl | rfl | rfl | rfl | rfl | rfl | rfl | rfl | rfl | rfl | rfl | rfl | rfl | rfl | rfl | rfl | rfl | rfl | rfl | rfl | rfl | rfl | rfl | rfl | rfl | rfl | rfl | rfl | rfl | rfl | rfl | rfl | rfl | rfl | rfl | rfl | rfl | rfl | rfl
     ·simp at ho
      subst ho
      clear hall hi
      refine wpOp_step rfl (fun K' hK' => ?_)
      have HK := Lib.hid hK'
      clear hK'
      go_simp
      exact HK.out _ _ ⟨by simp [HJ.out.sz], ⟨_, _, _, _, _, _, _, _, _, _, _, _, _, _, _, _, _, _, _, _, _, _, _, _, _, _, _, _, _, _, _, _, _, _, _, _, _, _, _, _, _, _, _, _, _, _, _, _, _, _, rfl, fun _ => rfl, Um HV.out.k1, Um HV.out.k2, Um HV.out.k3, Um HV.out.k4, Um HV.out.k5, Um HV.out.k6, Um HV.out.k7, Um HV.out.k8, Um HV.out.k9, Um HV.out.k10, Um HV.out.k11, Um HV.out.k12, Um HV.out.k13, Um HV.out.k14, Um HV.out.k15, Um HV.out.k16, Um HV.out.k17, Um HV.out.k18, Um HV.out.k19, Um HV.out.k20, Um HV.out.k21, Um HV.out.k22, Um HV.out.k23, Um HV.out.k24, Um HV.out.k25, Um HV.out.k26, Um HV.out.k27, Um HV.out.k28, Um HV.out.k29, Um HV.out.k30, Um HV.out.k31, Um HV.out.k32, Um HV.out.k33, Um HV.out.k34, Um HV.out.k35, Um HV.out.k36, Um HV.out.k37, Um HV.out.k38, Um HV.out.k39, Um HV.out.k40, Um HV.out.k41, Um HV.out.k42, Um HV.out.k43, Um HV.out.k44, Um HV.out.k45, Um HV.out.k46, Um HV.out.k47, Um HV.out.k48, Um HV.out.k49, HV.out.g, HV.out.o⟩⟩
     ·simp at ho
      subst ho
      have H0 := Lib.hid (hall { on := 0, ground := .data } (by simp) (by decide))
      clear hall hi
      have e0 := HV.out.k0 H0.out
      subst e0
      refine wpOp_step rfl (fun K' hK' => ?_)
      have HK := Lib.hid hK'
      clear hK'
      go_simp
      exact HK.out _ _ ⟨by simp [HJ.out.sz], ⟨_, _, _, _, _, _, _, _, _, _, _, _, _, _, _, _, _, _, _, _, _, _, _, _, _, _, _, _, _, _, _, _, _, _, _, _, _, _, _, _, _, _, _, _, _, _, _, _, _, _, rfl, Um HV.out.k0, fun _ => rfl, Um HV.out.k2, Um HV.out.k3, Um HV.out.k4, Um HV.out.k5, Um HV.out.k6, Um HV.out.k7, Um HV.out.k8, Um HV.out.k9, Um HV.out.k10, Um HV.out.k11, Um HV.out.k12, Um HV.out.k13, Um HV.out.k14, Um HV.out.k15, Um HV.out.k16, Um HV.out.k17, Um HV.out.k18, Um HV.out.k19, Um HV.out.k20, Um HV.out.k21, Um HV.out.k22, Um HV.out.k23, Um HV.out.k24, Um HV.out.k25, Um HV.out.k26, Um HV.out.k27, Um HV.out.k28, Um HV.out.k29, Um HV.out.k30, Um HV.out.k31, Um HV.out.k32, Um HV.out.k33, Um HV.out.k34, Um HV.out.k35, Um HV.out.k36, Um HV.out.k37, Um HV.out.k38, Um HV.out.k39, Um HV.out.k40, Um HV.out.k41, Um HV.out.k42, Um HV.out.k43, Um HV.out.k44, Um HV.out.k45, Um HV.out.k46, Um HV.out.k47, Um HV.out.k48, Um HV.out.k49, HV.out.g, HV.out.o⟩⟩
     ·simp at ho
      subst ho
      have H1 := Lib.hid (hall { on := 1, ground := .data } (by simp) (by decide))
      clear hall hi
      have e0 := HV.out.k1 H1.out
      subst e0
      refine wpOp_step rfl (fun K' hK' => ?_)
      have HK := Lib.hid hK'
      clear hK'
      go_simp
      exact HK.out _ _ ⟨by simp [HJ.out.sz], ⟨_, _, _, _, _, _, _, _, _, _, _, _, _, _, _, _, _, _, _, _, _, _, _, _, _, _, _, _, _, _, _, _, _, _, _, _, _, _, _, _, _, _, _, _, _, _, _, _, _, _, rfl, Um HV.out.k0, Um HV.out.k1, fun _ => rfl, Um HV.out.k3, Um HV.out.k4, Um HV.out.k5, Um HV.out.k6, Um HV.out.k7, Um HV.out.k8, Um HV.out.k9, Um HV.out.k10, Um HV.out.k11, Um HV.out.k12, Um HV.out.k13, Um HV.out.k14, Um HV.out.k15, Um HV.out.k16, Um HV.out.k17, Um HV.out.k18, Um HV.out.k19, Um HV.out.k20, Um HV.out.k21, Um HV.out.k22, Um HV.out.k23, Um HV.out.k24, Um HV.out.k25, Um HV.out.k26, Um HV.out.k27, Um HV.out.k28, Um HV.out.k29, Um HV.out.k30, Um HV.out.k31, Um HV.out.k32, Um HV.out.k33, Um HV.out.k34, Um HV.out.k35, Um HV.out.k36, Um HV.out.k37, Um HV.out.k38, Um HV.out.k39, Um HV.out.k40, Um HV.out.k41, Um HV.out.k42, Um HV.out.k43, Um HV.out.k44, Um HV.out.k45, Um HV.out.k46, Um HV.out.k47, Um HV.out.k48, Um HV.out.k49, HV.out.g, HV.out.o⟩⟩
     ·simp at ho
      subst ho
      have H2 := Lib.hid (hall { on := 2, ground := .guard } (by simp) (by decide))
      clear hall hi
      have e0 := HV.out.k2 H2.out
      subst e0
      have hxx := HV.out.g.ba
      have c0 := Lib.cell_of_heap hxx 0; have c1 := Lib.cell_of_heap hxx 1; have c2 := Lib.cell_of_heap hxx 2; have c3 := Lib.cell_of_heap hxx 3; have c4 := Lib.cell_of_heap hxx 4; have c5 := Lib.cell_of_heap hxx 5; have c6 := Lib.cell_of_heap hxx 6; simp [Lot.cells] at c0 c1 c2 c3 c4 c5 c6
      refine wpOp_step rfl (fun K' hK' => ?_)
      have HK := Lib.hid hK'
      clear hK'
      go_simp
      exact HK.out _ _ ⟨by simp [HJ.out.sz], ⟨_, _, _, _, _, _, _, _, _, _, _, _, _, _, _, _, _, _, _, _, _, _, _, _, _, _, _, _, _, _, _, _, _, _, _, _, _, _, _, _, _, _, _, _, _, _, _, _, _, _, rfl, Um HV.out.k0, Um HV.out.k1, Um HV.out.k2, fun _ => rfl, Um HV.out.k4, Um HV.out.k5, Um HV.out.k6, Um HV.out.k7, Um HV.out.k8, Um HV.out.k9, Um HV.out.k10, Um HV.out.k11, Um HV.out.k12, Um HV.out.k13, Um HV.out.k14, Um HV.out.k15, Um HV.out.k16, Um HV.out.k17, Um HV.out.k18, Um HV.out.k19, Um HV.out.k20, Um HV.out.k21, Um HV.out.k22, Um HV.out.k23, Um HV.out.k24, Um HV.out.k25, Um HV.out.k26, Um HV.out.k27, Um HV.out.k28, Um HV.out.k29, Um HV.out.k30, Um HV.out.k31, Um HV.out.k32, Um HV.out.k33, Um HV.out.k34, Um HV.out.k35, Um HV.out.k36, Um HV.out.k37, Um HV.out.k38, Um HV.out.k39, Um HV.out.k40, Um HV.out.k41, Um HV.out.k42, Um HV.out.k43, Um HV.out.k44, Um HV.out.k45, Um HV.out.k46, Um HV.out.k47, Um HV.out.k48, Um HV.out.k49, HV.out.g, HV.out.o⟩⟩
     ·simp at ho
      subst ho
      have H3 := Lib.hid (hall { on := 3, ground := .data } (by simp) (by decide))
      have H2 := Lib.hid (hall { on := 2, ground := .chain } (by simp) (by decide))
      clear hall hi
      have e0 := HV.out.k3 H3.out
      subst e0
      have e1 := HV.out.k2 H2.out
      subst e1
      refine wpOp_step rfl (fun K' hK' => ?_)
      have HK := Lib.hid hK'
      clear hK'
      go_simp
      refine (HCA.out _ HV.out.g.be).mono ?_
      rintro e wn ⟨rfl, bn⟩
      have hg := HV.out.g.below bn
      exact HK.out _ _ ⟨by simp [HJ.out.sz], ⟨_, _, _, _, _, _, _, _, _, _, _, _, _, _, _, _, _, _, _, _, _, _, _, _, _, _, _, _, _, _, _, _, _, _, _, _, _, _, _, _, _, _, _, _, _, _, _, _, _, _, rfl, Um HV.out.k0, Um HV.out.k1, Um HV.out.k2, Um HV.out.k3, fun _ => rfl, Um HV.out.k5, Um HV.out.k6, Um HV.out.k7, Um HV.out.k8, Um HV.out.k9, Um HV.out.k10, Um HV.out.k11, Um HV.out.k12, Um HV.out.k13, Um HV.out.k14, Um HV.out.k15, Um HV.out.k16, Um HV.out.k17, Um HV.out.k18, Um HV.out.k19, Um HV.out.k20, Um HV.out.k21, Um HV.out.k22, Um HV.out.k23, Um HV.out.k24, Um HV.out.k25, Um HV.out.k26, Um HV.out.k27, Um HV.out.k28, Um HV.out.k29, Um HV.out.k30, Um HV.out.k31, Um HV.out.k32, Um HV.out.k33, Um HV.out.k34, Um HV.out.k35, Um HV.out.k36, Um HV.out.k37, Um HV.out.k38, Um HV.out.k39, Um HV.out.k40, Um HV.out.k41, Um HV.out.k42, Um HV.out.k43, Um HV.out.k44, Um HV.out.k45, Um HV.out.k46, Um HV.out.k47, Um HV.out.k48, Um HV.out.k49, hg, (bn.block _ (Array.getElem?_eq_some_iff.1 HV.out.o).1).trans HV.out.o⟩⟩
     ·simp at ho
      subst ho
      have H4 := Lib.hid (hall { on := 4, ground := .data } (by simp) (by decide))
      have H2 := Lib.hid (hall { on := 2, ground := .guard } (by simp) (by decide))
      clear hall hi
      have e0 := HV.out.k4 H4.out
      subst e0
      have e1 := HV.out.k2 H2.out
      subst e1
      refine wpOp_step rfl (fun K' hK' => ?_)
      have HK := Lib.hid hK'
      clear hK'
      go_simp
      exact HK.out _ _ ⟨by simp [HJ.out.sz], ⟨_, _, _, _, _, _, _, _, _, _, _, _, _, _, _, _, _, _, _, _, _, _, _, _, _, _, _, _, _, _, _, _, _, _, _, _, _, _, _, _, _, _, _, _, _, _, _, _, _, _, rfl, Um HV.out.k0, Um HV.out.k1, Um HV.out.k2, Um HV.out.k3, Um HV.out.k4, fun _ => rfl, Um HV.out.k6, Um HV.out.k7, Um HV.out.k8, Um HV.out.k9, Um HV.out.k10, Um HV.out.k11, Um HV.out.k12, Um HV.out.k13, Um HV.out.k14, Um HV.out.k15, Um HV.out.k16, Um HV.out.k17, Um HV.out.k18, Um HV.out.k19, Um HV.out.k20, Um HV.out.k21, Um HV.out.k22, Um HV.out.k23, Um HV.out.k24, Um HV.out.k25, Um HV.out.k26, Um HV.out.k27, Um HV.out.k28, Um HV.out.k29, Um HV.out.k30, Um HV.out.k31, Um HV.out.k32, Um HV.out.k33, Um HV.out.k34, Um HV.out.k35, Um HV.out.k36, Um HV.out.k37, Um HV.out.k38, Um HV.out.k39, Um HV.out.k40, Um HV.out.k41, Um HV.out.k42, Um HV.out.k43, Um HV.out.k44, Um HV.out.k45, Um HV.out.k46, Um HV.out.k47, Um HV.out.k48, Um HV.out.k49, HV.out.g, HV.out.o⟩⟩
     ·simp at ho
      subst ho
      have H2 := Lib.hid (hall { on := 2, ground := .data } (by simp) (by decide))
      have H5 := Lib.hid (hall { on := 5, ground := .data } (by simp) (by decide))
      clear hall hi
      have e0 := HV.out.k2 H2.out
      subst e0
      have e1 := HV.out.k5 H5.out
      subst e1
      refine wpOp_step rfl (fun K' hK' => ?_)
      have HK := Lib.hid hK'
      clear hK'
      go_simp
      exact HK.out _ _ ⟨by simp [HJ.out.sz], ⟨_, _, _, _, _, _, _, _, _, _, _, _, _, _, _, _, _, _, _, _, _, _, _, _, _, _, _, _, _, _, _, _, _, _, _, _, _, _, _, _, _, _, _, _, _, _, _, _, _, _, rfl, Um HV.out.k0, Um HV.out.k1, Um HV.out.k2, Um HV.out.k3, Um HV.out.k4, Um HV.out.k5, fun _ => rfl, Um HV.out.k7, Um HV.out.k8, Um HV.out.k9, Um HV.out.k10, Um HV.out.k11, Um HV.out.k12, Um HV.out.k13, Um HV.out.k14, Um HV.out.k15, Um HV.out.k16, Um HV.out.k17, Um HV.out.k18, Um HV.out.k19, Um HV.out.k20, Um HV.out.k21, Um HV.out.k22, Um HV.out.k23, Um HV.out.k24, Um HV.out.k25, Um HV.out.k26, Um HV.out.k27, Um HV.out.k28, Um HV.out.k29, Um HV.out.k30, Um HV.out.k31, Um HV.out.k32, Um HV.out.k33, Um HV.out.k34, Um HV.out.k35, Um HV.out.k36, Um HV.out.k37, Um HV.out.k38, Um HV.out.k39, Um HV.out.k40, Um HV.out.k41, Um HV.out.k42, Um HV.out.k43, Um HV.out.k44, Um HV.out.k45, Um HV.out.k46, Um HV.out.k47, Um HV.out.k48, Um HV.out.k49, HV.out.g, HV.out.o⟩⟩
     ·simp at ho
      subst ho
      have H6 := Lib.hid (hall { on := 6, ground := .data } (by simp) (by decide))
      clear hall hi
      have e0 := HV.out.k6 H6.out
      subst e0
      refine wpOp_step rfl (fun K' hK' => ?_)
      have HK := Lib.hid hK'
      clear hK'
      go_simp
      exact HK.out _ _ ⟨by simp [HJ.out.sz], ⟨_, _, _, _, _, _, _, _, _, _, _, _, _, _, _, _, _, _, _, _, _, _, _, _, _, _, _, _, _, _, _, _, _, _, _, _, _, _, _, _, _, _, _, _, _, _, _, _, _, _, rfl, Um HV.out.k0, Um HV.out.k1, Um HV.out.k2, Um HV.out.k3, Um HV.out.k4, Um HV.out.k5, Um HV.out.k6, fun _ => rfl, Um HV.out.k8, Um HV.out.k9, Um HV.out.k10, Um HV.out.k11, Um HV.out.k12, Um HV.out.k13, Um HV.out.k14, Um HV.out.k15, Um HV.out.k16, Um HV.out.k17, Um HV.out.k18, Um HV.out.k19, Um HV.out.k20, Um HV.out.k21, Um HV.out.k22, Um HV.out.k23, Um HV.out.k24, Um HV.out.k25, Um HV.out.k26, Um HV.out.k27, Um HV.out.k28, Um HV.out.k29, Um HV.out.k30, Um HV.out.k31, Um HV.out.k32, Um HV.out.k33, Um HV.out.k34, Um HV.out.k35, Um HV.out.k36, Um HV.out.k37, Um HV.out.k38, Um HV.out.k39, Um HV.out.k40, Um HV.out.k41, Um HV.out.k42, Um HV.out.k43, Um HV.out.k44, Um HV.out.k45, Um HV.out.k46, Um HV.out.k47, Um HV.out.k48, Um HV.out.k49, HV.out.g, HV.out.o⟩⟩
     ·simp at ho
      subst ho
      have H7 := Lib.hid (hall { on := 7, ground := .guard } (by simp) (by decide))
      clear hall hi
      have e0 := HV.out.k7 H7.out
      subst e0
      have hxx := HV.out.g.bb
      have c0 := Lib.cell_of_heap hxx 0; have c1 := Lib.cell_of_heap hxx 1; have c2 := Lib.cell_of_heap hxx 2; have c3 := Lib.cell_of_heap hxx 3; have c4 := Lib.cell_of_heap hxx 4; have c5 := Lib.cell_of_heap hxx 5; have c6 := Lib.cell_of_heap hxx 6; simp [Lot.cells] at c0 c1 c2 c3 c4 c5 c6
      refine wpOp_step rfl (fun K' hK' => ?_)
      have HK := Lib.hid hK'
      clear hK'
      go_simp
      exact HK.out _ _ ⟨by simp [HJ.out.sz], ⟨_, _, _, _, _, _, _, _, _, _, _, _, _, _, _, _, _, _, _, _, _, _, _, _, _, _, _, _, _, _, _, _, _, _, _, _, _, _, _, _, _, _, _, _, _, _, _, _, _, _, rfl, Um HV.out.k0, Um HV.out.k1, Um HV.out.k2, Um HV.out.k3, Um HV.out.k4, Um HV.out.k5, Um HV.out.k6, Um HV.out.k7, fun _ => rfl, Um HV.out.k9, Um HV.out.k10, Um HV.out.k11, Um HV.out.k12, Um HV.out.k13, Um HV.out.k14, Um HV.out.k15, Um HV.out.k16, Um HV.out.k17, Um HV.out.k18, Um HV.out.k19, Um HV.out.k20, Um HV.out.k21, Um HV.out.k22, Um HV.out.k23, Um HV.out.k24, Um HV.out.k25, Um HV.out.k26, Um HV.out.k27, Um HV.out.k28, Um HV.out.k29, Um HV.out.k30, Um HV.out.k31, Um HV.out.k32, Um HV.out.k33, Um HV.out.k34, Um HV.out.k35, Um HV.out.k36, Um HV.out.k37, Um HV.out.k38, Um HV.out.k39, Um HV.out.k40, Um HV.out.k41, Um HV.out.k42, Um HV.out.k43, Um HV.out.k44, Um HV.out.k45, Um HV.out.k46, Um HV.out.k47, Um HV.out.k48, Um HV.out.k49, HV.out.g, HV.out.o⟩⟩
     ·simp at ho
      subst ho
      have H8 := Lib.hid (hall { on := 8, ground := .data } (by simp) (by decide))
      have H7 := Lib.hid (hall { on := 7, ground := .chain } (by simp) (by decide))
      clear hall hi
      have e0 := HV.out.k8 H8.out
      subst e0
      have e1 := HV.out.k7 H7.out
      subst e1
      refine wpOp_step rfl (fun K' hK' => ?_)
      have HK := Lib.hid hK'
      clear hK'
      go_simp
      refine (HCB.out _ HV.out.g.be).mono ?_
      rintro e wn ⟨rfl, bn⟩
      have hg := HV.out.g.below bn
      exact HK.out _ _ ⟨by simp [HJ.out.sz], ⟨_, _, _, _, _, _, _, _, _, _, _, _, _, _, _, _, _, _, _, _, _, _, _, _, _, _, _, _, _, _, _, _, _, _, _, _, _, _, _, _, _, _, _, _, _, _, _, _, _, _, rfl, Um HV.out.k0, Um HV.out.k1, Um HV.out.k2, Um HV.out.k3, Um HV.out.k4, Um HV.out.k5, Um HV.out.k6, Um HV.out.k7, Um HV.out.k8, fun _ => rfl, Um HV.out.k10, Um HV.out.k11, Um HV.out.k12, Um HV.out.k13, Um HV.out.k14, Um HV.out.k15, Um HV.out.k16, Um HV.out.k17, Um HV.out.k18, Um HV.out.k19, Um HV.out.k20, Um HV.out.k21, Um HV.out.k22, Um HV.out.k23, Um HV.out.k24, Um HV.out.k25, Um HV.out.k26, Um HV.out.k27, Um HV.out.k28, Um HV.out.k29, Um HV.out.k30, Um HV.out.k31, Um HV.out.k32, Um HV.out.k33, Um HV.out.k34, Um HV.out.k35, Um HV.out.k36, Um HV.out.k37, Um HV.out.k38, Um HV.out.k39, Um HV.out.k40, Um HV.out.k41, Um HV.out.k42, Um HV.out.k43, Um HV.out.k44, Um HV.out.k45, Um HV.out.k46, Um HV.out.k47, Um HV.out.k48, Um HV.out.k49, hg, (bn.block _ (Array.getElem?_eq_some_iff.1 HV.out.o).1).trans HV.out.o⟩⟩
     ·simp at ho
      subst ho
      have H9 := Lib.hid (hall { on := 9, ground := .data } (by simp) (by decide))
      have H7 := Lib.hid (hall { on := 7, ground := .guard } (by simp) (by decide))
      clear hall hi
      have e0 := HV.out.k9 H9.out
      subst e0
      have e1 := HV.out.k7 H7.out
      subst e1
      refine wpOp_step rfl (fun K' hK' => ?_)
      have HK := Lib.hid hK'
      clear hK'
      go_simp
      exact HK.out _ _ ⟨by simp [HJ.out.sz], ⟨_, _, _, _, _, _, _, _, _, _, _, _, _, _, _, _, _, _, _, _, _, _, _, _, _, _, _, _, _, _, _, _, _, _, _, _, _, _, _, _, _, _, _, _, _, _, _, _, _, _, rfl, Um HV.out.k0, Um HV.out.k1, Um HV.out.k2, Um HV.out.k3, Um HV.out.k4, Um HV.out.k5, Um HV.out.k6, Um HV.out.k7, Um HV.out.k8, Um HV.out.k9, fun _ => rfl, Um HV.out.k11, Um HV.out.k12, Um HV.out.k13, Um HV.out.k14, Um HV.out.k15, Um HV.out.k16, Um HV.out.k17, Um HV.out.k18, Um HV.out.k19, Um HV.out.k20, Um HV.out.k21, Um HV.out.k22, Um HV.out.k23, Um HV.out.k24, Um HV.out.k25, Um HV.out.k26, Um HV.out.k27, Um HV.out.k28, Um HV.out.k29, Um HV.out.k30, Um HV.out.k31, Um HV.out.k32, Um HV.out.k33, Um HV.out.k34, Um HV.out.k35, Um HV.out.k36, Um HV.out.k37, Um HV.out.k38, Um HV.out.k39, Um HV.out.k40, Um HV.out.k41, Um HV.out.k42, Um HV.out.k43, Um HV.out.k44, Um HV.out.k45, Um HV.out.k46, Um HV.out.k47, Um HV.out.k48, Um HV.out.k49, HV.out.g, HV.out.o⟩⟩
     ·simp at ho
      subst ho
      have H7 := Lib.hid (hall { on := 7, ground := .data } (by simp) (by decide))
      have H10 := Lib.hid (hall { on := 10, ground := .data } (by simp) (by decide))
      clear hall hi
      have e0 := HV.out.k7 H7.out
      subst e0
      have e1 := HV.out.k10 H10.out
      subst e1
      refine wpOp_step rfl (fun K' hK' => ?_)
      have HK := Lib.hid hK'
      clear hK'
      go_simp
      exact HK.out _ _ ⟨by simp [HJ.out.sz], ⟨_, _, _, _, _, _, _, _, _, _, _, _, _, _, _, _, _, _, _, _, _, _, _, _, _, _, _, _, _, _, _, _, _, _, _, _, _, _, _, _, _, _, _, _, _, _, _, _, _, _, rfl, Um HV.out.k0, Um HV.out.k1, Um HV.out.k2, Um HV.out.k3, Um HV.out.k4, Um HV.out.k5, Um HV.out.k6, Um HV.out.k7, Um HV.out.k8, Um HV.out.k9, Um HV.out.k10, fun _ => rfl, Um HV.out.k12, Um HV.out.k13, Um HV.out.k14, Um HV.out.k15, Um HV.out.k16, Um HV.out.k17, Um HV.out.k18, Um HV.out.k19, Um HV.out.k20, Um HV.out.k21, Um HV.out.k22, Um HV.out.k23, Um HV.out.k24, Um HV.out.k25, Um HV.out.k26, Um HV.out.k27, Um HV.out.k28, Um HV.out.k29, Um HV.out.k30, Um HV.out.k31, Um HV.out.k32, Um HV.out.k33, Um HV.out.k34, Um HV.out.k35, Um HV.out.k36, Um HV.out.k37, Um HV.out.k38, Um HV.out.k39, Um HV.out.k40, Um HV.out.k41, Um HV.out.k42, Um HV.out.k43, Um HV.out.k44, Um HV.out.k45, Um HV.out.k46, Um HV.out.k47, Um HV.out.k48, Um HV.out.k49, HV.out.g, HV.out.o⟩⟩
     ·simp at ho
      subst ho
      have H11 := Lib.hid (hall { on := 11, ground := .data } (by simp) (by decide))
      clear hall hi
      have e0 := HV.out.k11 H11.out
      subst e0
      refine wpOp_step rfl (fun K' hK' => ?_)
      have HK := Lib.hid hK'
      clear hK'
      go_simp
      exact HK.out _ _ ⟨by simp [HJ.out.sz], ⟨_, _, _, _, _, _, _, _, _, _, _, _, _, _, _, _, _, _, _, _, _, _, _, _, _, _, _, _, _, _, _, _, _, _, _, _, _, _, _, _, _, _, _, _, _, _, _, _, _, _, rfl, Um HV.out.k0, Um HV.out.k1, Um HV.out.k2, Um HV.out.k3, Um HV.out.k4, Um HV.out.k5, Um HV.out.k6, Um HV.out.k7, Um HV.out.k8, Um HV.out.k9, Um HV.out.k10, Um HV.out.k11, fun _ => rfl, Um HV.out.k13, Um HV.out.k14, Um HV.out.k15, Um HV.out.k16, Um HV.out.k17, Um HV.out.k18, Um HV.out.k19, Um HV.out.k20, Um HV.out.k21, Um HV.out.k22, Um HV.out.k23, Um HV.out.k24, Um HV.out.k25, Um HV.out.k26, Um HV.out.k27, Um HV.out.k28, Um HV.out.k29, Um HV.out.k30, Um HV.out.k31, Um HV.out.k32, Um HV.out.k33, Um HV.out.k34, Um HV.out.k35, Um HV.out.k36, Um HV.out.k37, Um HV.out.k38, Um HV.out.k39, Um HV.out.k40, Um HV.out.k41, Um HV.out.k42, Um HV.out.k43, Um HV.out.k44, Um HV.out.k45, Um HV.out.k46, Um HV.out.k47, Um HV.out.k48, Um HV.out.k49, HV.out.g, HV.out.o⟩⟩
     ·simp at ho
      subst ho
      have H12 := Lib.hid (hall { on := 12, ground := .guard } (by simp) (by decide))
      clear hall hi
      have e0 := HV.out.k12 H12.out
      subst e0
      refine wpOp_step rfl (fun K' hK' => ?_)
      have HK := Lib.hid hK'
      clear hK'
      go_simp
      exact HK.out _ _ ⟨by simp [HJ.out.sz], ⟨_, _, _, _, _, _, _, _, _, _, _, _, _, _, _, _, _, _, _, _, _, _, _, _, _, _, _, _, _, _, _, _, _, _, _, _, _, _, _, _, _, _, _, _, _, _, _, _, _, _, rfl, Um HV.out.k0, Um HV.out.k1, Um HV.out.k2, Um HV.out.k3, Um HV.out.k4, Um HV.out.k5, Um HV.out.k6, Um HV.out.k7, Um HV.out.k8, Um HV.out.k9, Um HV.out.k10, Um HV.out.k11, Um HV.out.k12, fun _ => rfl, Um HV.out.k14, Um HV.out.k15, Um HV.out.k16, Um HV.out.k17, Um HV.out.k18, Um HV.out.k19, Um HV.out.k20, Um HV.out.k21, Um HV.out.k22, Um HV.out.k23, Um HV.out.k24, Um HV.out.k25, Um HV.out.k26, Um HV.out.k27, Um HV.out.k28, Um HV.out.k29, Um HV.out.k30, Um HV.out.k31, Um HV.out.k32, Um HV.out.k33, Um HV.out.k34, Um HV.out.k35, Um HV.out.k36, Um HV.out.k37, Um HV.out.k38, Um HV.out.k39, Um HV.out.k40, Um HV.out.k41, Um HV.out.k42, Um HV.out.k43, Um HV.out.k44, Um HV.out.k45, Um HV.out.k46, Um HV.out.k47, Um HV.out.k48, Um HV.out.k49, HV.out.g, HV.out.o⟩⟩
     ·simp at ho
      subst ho
      have H13 := Lib.hid (hall { on := 13, ground := .data } (by simp) (by decide))
      have H12 := Lib.hid (hall { on := 12, ground := .guard } (by simp) (by decide))
      clear hall hi
      have e0 := HV.out.k13 H13.out
      subst e0
      have e1 := HV.out.k12 H12.out
      subst e1
      have hc := Lib.cell_of_heap HV.out.g.ba 4; simp [Lot.cells] at hc
      rw [HQA.out] at hc
      refine wpOp_step rfl (fun K' hK' => ?_)
      have HK := Lib.hid hK'
      clear hK'
      go_simp
      exact HK.out _ _ ⟨by simp [HJ.out.sz], ⟨_, _, _, _, _, _, _, _, _, _, _, _, _, _, _, _, _, _, _, _, _, _, _, _, _, _, _, _, _, _, _, _, _, _, _, _, _, _, _, _, _, _, _, _, _, _, _, _, _, _, rfl, Um HV.out.k0, Um HV.out.k1, Um HV.out.k2, Um HV.out.k3, Um HV.out.k4, Um HV.out.k5, Um HV.out.k6, Um HV.out.k7, Um HV.out.k8, Um HV.out.k9, Um HV.out.k10, Um HV.out.k11, Um HV.out.k12, Um HV.out.k13, fun _ => rfl, Um HV.out.k15, Um HV.out.k16, Um HV.out.k17, Um HV.out.k18, Um HV.out.k19, Um HV.out.k20, Um HV.out.k21, Um HV.out.k22, Um HV.out.k23, Um HV.out.k24, Um HV.out.k25, Um HV.out.k26, Um HV.out.k27, Um HV.out.k28, Um HV.out.k29, Um HV.out.k30, Um HV.out.k31, Um HV.out.k32, Um HV.out.k33, Um HV.out.k34, Um HV.out.k35, Um HV.out.k36, Um HV.out.k37, Um HV.out.k38, Um HV.out.k39, Um HV.out.k40, Um HV.out.k41, Um HV.out.k42, Um HV.out.k43, Um HV.out.k44, Um HV.out.k45, Um HV.out.k46, Um HV.out.k47, Um HV.out.k48, Um HV.out.k49, HV.out.g, HV.out.o⟩⟩
     ·simp at ho
      subst ho
      have H12 := Lib.hid (hall { on := 12, ground := .guard } (by simp) (by decide))
      clear hall hi
      have e0 := HV.out.k12 H12.out
      subst e0
      refine wpOp_step rfl (fun K' hK' => ?_)
      have HK := Lib.hid hK'
      clear hK'
      go_simp
      exact HK.out _ _ ⟨by simp [HJ.out.sz], ⟨_, _, _, _, _, _, _, _, _, _, _, _, _, _, _, _, _, _, _, _, _, _, _, _, _, _, _, _, _, _, _, _, _, _, _, _, _, _, _, _, _, _, _, _, _, _, _, _, _, _, rfl, Um HV.out.k0, Um HV.out.k1, Um HV.out.k2, Um HV.out.k3, Um HV.out.k4, Um HV.out.k5, Um HV.out.k6, Um HV.out.k7, Um HV.out.k8, Um HV.out.k9, Um HV.out.k10, Um HV.out.k11, Um HV.out.k12, Um HV.out.k13, Um HV.out.k14, fun _ => rfl, Um HV.out.k16, Um HV.out.k17, Um HV.out.k18, Um HV.out.k19, Um HV.out.k20, Um HV.out.k21, Um HV.out.k22, Um HV.out.k23, Um HV.out.k24, Um HV.out.k25, Um HV.out.k26, Um HV.out.k27, Um HV.out.k28, Um HV.out.k29, Um HV.out.k30, Um HV.out.k31, Um HV.out.k32, Um HV.out.k33, Um HV.out.k34, Um HV.out.k35, Um HV.out.k36, Um HV.out.k37, Um HV.out.k38, Um HV.out.k39, Um HV.out.k40, Um HV.out.k41, Um HV.out.k42, Um HV.out.k43, Um HV.out.k44, Um HV.out.k45, Um HV.out.k46, Um HV.out.k47, Um HV.out.k48, Um HV.out.k49, HV.out.g, HV.out.o⟩⟩
     ·simp at ho
      subst ho
      have H14 := Lib.hid (hall { on := 14, ground := .data } (by simp) (by decide))
      have H15 := Lib.hid (hall { on := 15, ground := .data } (by simp) (by decide))
      have H12 := Lib.hid (hall { on := 12, ground := .guard } (by simp) (by decide))
      clear hall hi
      have e0 := HV.out.k14 H14.out
      subst e0
      have e1 := HV.out.k15 H15.out
      subst e1
      have e2 := HV.out.k12 H12.out
      subst e2
      refine wpOp_step rfl (fun K' hK' => ?_)
      have HK := Lib.hid hK'
      clear hK'
      go_simp
      exact HK.out _ _ ⟨by simp [HJ.out.sz], ⟨_, _, _, _, _, _, _, _, _, _, _, _, _, _, _, _, _, _, _, _, _, _, _, _, _, _, _, _, _, _, _, _, _, _, _, _, _, _, _, _, _, _, _, _, _, _, _, _, _, _, rfl, Um HV.out.k0, Um HV.out.k1, Um HV.out.k2, Um HV.out.k3, Um HV.out.k4, Um HV.out.k5, Um HV.out.k6, Um HV.out.k7, Um HV.out.k8, Um HV.out.k9, Um HV.out.k10, Um HV.out.k11, Um HV.out.k12, Um HV.out.k13, Um HV.out.k14, Um HV.out.k15, fun _ => rfl, Um HV.out.k17, Um HV.out.k18, Um HV.out.k19, Um HV.out.k20, Um HV.out.k21, Um HV.out.k22, Um HV.out.k23, Um HV.out.k24, Um HV.out.k25, Um HV.out.k26, Um HV.out.k27, Um HV.out.k28, Um HV.out.k29, Um HV.out.k30, Um HV.out.k31, Um HV.out.k32, Um HV.out.k33, Um HV.out.k34, Um HV.out.k35, Um HV.out.k36, Um HV.out.k37, Um HV.out.k38, Um HV.out.k39, Um HV.out.k40, Um HV.out.k41, Um HV.out.k42, Um HV.out.k43, Um HV.out.k44, Um HV.out.k45, Um HV.out.k46, Um HV.out.k47, Um HV.out.k48, Um HV.out.k49, HV.out.g, HV.out.o⟩⟩
     ·simp at ho
      subst ho
      have H12 := Lib.hid (hall { on := 12, ground := .data } (by simp) (by decide))
      have H16 := Lib.hid (hall { on := 16, ground := .data } (by simp) (by decide))
      clear hall hi
      have e0 := HV.out.k12 H12.out
      subst e0
      have e1 := HV.out.k16 H16.out
      subst e1
      refine wpOp_step rfl (fun K' hK' => ?_)
      have HK := Lib.hid hK'
      clear hK'
      go_simp
      exact HK.out _ _ ⟨by simp [HJ.out.sz], ⟨_, _, _, _, _, _, _, _, _, _, _, _, _, _, _, _, _, _, _, _, _, _, _, _, _, _, _, _, _, _, _, _, _, _, _, _, _, _, _, _, _, _, _, _, _, _, _, _, _, _, rfl, Um HV.out.k0, Um HV.out.k1, Um HV.out.k2, Um HV.out.k3, Um HV.out.k4, Um HV.out.k5, Um HV.out.k6, Um HV.out.k7, Um HV.out.k8, Um HV.out.k9, Um HV.out.k10, Um HV.out.k11, Um HV.out.k12, Um HV.out.k13, Um HV.out.k14, Um HV.out.k15, Um HV.out.k16, fun _ => rfl, Um HV.out.k18, Um HV.out.k19, Um HV.out.k20, Um HV.out.k21, Um HV.out.k22, Um HV.out.k23, Um HV.out.k24, Um HV.out.k25, Um HV.out.k26, Um HV.out.k27, Um HV.out.k28, Um HV.out.k29, Um HV.out.k30, Um HV.out.k31, Um HV.out.k32, Um HV.out.k33, Um HV.out.k34, Um HV.out.k35, Um HV.out.k36, Um HV.out.k37, Um HV.out.k38, Um HV.out.k39, Um HV.out.k40, Um HV.out.k41, Um HV.out.k42, Um HV.out.k43, Um HV.out.k44, Um HV.out.k45, Um HV.out.k46, Um HV.out.k47, Um HV.out.k48, Um HV.out.k49, HV.out.g, HV.out.o⟩⟩
     ·simp at ho
      subst ho
      have H17 := Lib.hid (hall { on := 17, ground := .data } (by simp) (by decide))
      clear hall hi
      have e0 := HV.out.k17 H17.out
      subst e0
      refine wpOp_step rfl (fun K' hK' => ?_)
      have HK := Lib.hid hK'
      clear hK'
      go_simp
      exact HK.out _ _ ⟨by simp [HJ.out.sz], ⟨_, _, _, _, _, _, _, _, _, _, _, _, _, _, _, _, _, _, _, _, _, _, _, _, _, _, _, _, _, _, _, _, _, _, _, _, _, _, _, _, _, _, _, _, _, _, _, _, _, _, rfl, Um HV.out.k0, Um HV.out.k1, Um HV.out.k2, Um HV.out.k3, Um HV.out.k4, Um HV.out.k5, Um HV.out.k6, Um HV.out.k7, Um HV.out.k8, Um HV.out.k9, Um HV.out.k10, Um HV.out.k11, Um HV.out.k12, Um HV.out.k13, Um HV.out.k14, Um HV.out.k15, Um HV.out.k16, Um HV.out.k17, fun _ => rfl, Um HV.out.k19, Um HV.out.k20, Um HV.out.k21, Um HV.out.k22, Um HV.out.k23, Um HV.out.k24, Um HV.out.k25, Um HV.out.k26, Um HV.out.k27, Um HV.out.k28, Um HV.out.k29, Um HV.out.k30, Um HV.out.k31, Um HV.out.k32, Um HV.out.k33, Um HV.out.k34, Um HV.out.k35, Um HV.out.k36, Um HV.out.k37, Um HV.out.k38, Um HV.out.k39, Um HV.out.k40, Um HV.out.k41, Um HV.out.k42, Um HV.out.k43, Um HV.out.k44, Um HV.out.k45, Um HV.out.k46, Um HV.out.k47, Um HV.out.k48, Um HV.out.k49, HV.out.g, HV.out.o⟩⟩
     ·simp at ho
      subst ho
      have H18 := Lib.hid (hall { on := 18, ground := .guard } (by simp) (by decide))
      clear hall hi
      have e0 := HV.out.k18 H18.out
      subst e0
      refine wpOp_step rfl (fun K' hK' => ?_)
      have HK := Lib.hid hK'
      clear hK'
      go_simp
      exact HK.out _ _ ⟨by simp [HJ.out.sz], ⟨_, _, _, _, _, _, _, _, _, _, _, _, _, _, _, _, _, _, _, _, _, _, _, _, _, _, _, _, _, _, _, _, _, _, _, _, _, _, _, _, _, _, _, _, _, _, _, _, _, _, rfl, Um HV.out.k0, Um HV.out.k1, Um HV.out.k2, Um HV.out.k3, Um HV.out.k4, Um HV.out.k5, Um HV.out.k6, Um HV.out.k7, Um HV.out.k8, Um HV.out.k9, Um HV.out.k10, Um HV.out.k11, Um HV.out.k12, Um HV.out.k13, Um HV.out.k14, Um HV.out.k15, Um HV.out.k16, Um HV.out.k17, Um HV.out.k18, fun _ => rfl, Um HV.out.k20, Um HV.out.k21, Um HV.out.k22, Um HV.out.k23, Um HV.out.k24, Um HV.out.k25, Um HV.out.k26, Um HV.out.k27, Um HV.out.k28, Um HV.out.k29, Um HV.out.k30, Um HV.out.k31, Um HV.out.k32, Um HV.out.k33, Um HV.out.k34, Um HV.out.k35, Um HV.out.k36, Um HV.out.k37, Um HV.out.k38, Um HV.out.k39, Um HV.out.k40, Um HV.out.k41, Um HV.out.k42, Um HV.out.k43, Um HV.out.k44, Um HV.out.k45, Um HV.out.k46, Um HV.out.k47, Um HV.out.k48, Um HV.out.k49, HV.out.g, HV.out.o⟩⟩
     ·simp at ho
      subst ho
      have H19 := Lib.hid (hall { on := 19, ground := .data } (by simp) (by decide))
      have H18 := Lib.hid (hall { on := 18, ground := .guard } (by simp) (by decide))
      clear hall hi
      have e0 := HV.out.k19 H19.out
      subst e0
      have e1 := HV.out.k18 H18.out
      subst e1
      have hc := Lib.cell_of_heap HV.out.g.ba 4; simp [Lot.cells] at hc
      rw [HQA.out] at hc
      refine wpOp_step rfl (fun K' hK' => ?_)
      have HK := Lib.hid hK'
      clear hK'
      go_simp
      exact HK.out _ _ ⟨by simp [HJ.out.sz], ⟨_, _, _, _, _, _, _, _, _, _, _, _, _, _, _, _, _, _, _, _, _, _, _, _, _, _, _, _, _, _, _, _, _, _, _, _, _, _, _, _, _, _, _, _, _, _, _, _, _, _, rfl, Um HV.out.k0, Um HV.out.k1, Um HV.out.k2, Um HV.out.k3, Um HV.out.k4, Um HV.out.k5, Um HV.out.k6, Um HV.out.k7, Um HV.out.k8, Um HV.out.k9, Um HV.out.k10, Um HV.out.k11, Um HV.out.k12, Um HV.out.k13, Um HV.out.k14, Um HV.out.k15, Um HV.out.k16, Um HV.out.k17, Um HV.out.k18, Um HV.out.k19, fun _ => rfl, Um HV.out.k21, Um HV.out.k22, Um HV.out.k23, Um HV.out.k24, Um HV.out.k25, Um HV.out.k26, Um HV.out.k27, Um HV.out.k28, Um HV.out.k29, Um HV.out.k30, Um HV.out.k31, Um HV.out.k32, Um HV.out.k33, Um HV.out.k34, Um HV.out.k35, Um HV.out.k36, Um HV.out.k37, Um HV.out.k38, Um HV.out.k39, Um HV.out.k40, Um HV.out.k41, Um HV.out.k42, Um HV.out.k43, Um HV.out.k44, Um HV.out.k45, Um HV.out.k46, Um HV.out.k47, Um HV.out.k48, Um HV.out.k49, HV.out.g, HV.out.o⟩⟩
     ·simp at ho
      subst ho
      have H18 := Lib.hid (hall { on := 18, ground := .guard } (by simp) (by decide))
      clear hall hi
      have e0 := HV.out.k18 H18.out
      subst e0
      refine wpOp_step rfl (fun K' hK' => ?_)
      have HK := Lib.hid hK'
      clear hK'
      go_simp
      exact HK.out _ _ ⟨by simp [HJ.out.sz], ⟨_, _, _, _, _, _, _, _, _, _, _, _, _, _, _, _, _, _, _, _, _, _, _, _, _, _, _, _, _, _, _, _, _, _, _, _, _, _, _, _, _, _, _, _, _, _, _, _, _, _, rfl, Um HV.out.k0, Um HV.out.k1, Um HV.out.k2, Um HV.out.k3, Um HV.out.k4, Um HV.out.k5, Um HV.out.k6, Um HV.out.k7, Um HV.out.k8, Um HV.out.k9, Um HV.out.k10, Um HV.out.k11, Um HV.out.k12, Um HV.out.k13, Um HV.out.k14, Um HV.out.k15, Um HV.out.k16, Um HV.out.k17, Um HV.out.k18, Um HV.out.k19, Um HV.out.k20, fun _ => rfl, Um HV.out.k22, Um HV.out.k23, Um HV.out.k24, Um HV.out.k25, Um HV.out.k26, Um HV.out.k27, Um HV.out.k28, Um HV.out.k29, Um HV.out.k30, Um HV.out.k31, Um HV.out.k32, Um HV.out.k33, Um HV.out.k34, Um HV.out.k35, Um HV.out.k36, Um HV.out.k37, Um HV.out.k38, Um HV.out.k39, Um HV.out.k40, Um HV.out.k41, Um HV.out.k42, Um HV.out.k43, Um HV.out.k44, Um HV.out.k45, Um HV.out.k46, Um HV.out.k47, Um HV.out.k48, Um HV.out.k49, HV.out.g, HV.out.o⟩⟩
     ·simp at ho
      subst ho
      have H21 := Lib.hid (hall { on := 21, ground := .data } (by simp) (by decide))
      have H18 := Lib.hid (hall { on := 18, ground := .guard } (by simp) (by decide))
      clear hall hi
      have e0 := HV.out.k21 H21.out
      subst e0
      have e1 := HV.out.k18 H18.out
      subst e1
      have hc := Lib.cell_of_heap HV.out.g.bb 4; simp [Lot.cells] at hc
      refine wpOp_step rfl (fun K' hK' => ?_)
      have HK := Lib.hid hK'
      clear hK'
      go_simp
      exact HK.out _ _ ⟨by simp [HJ.out.sz], ⟨_, _, _, _, _, _, _, _, _, _, _, _, _, _, _, _, _, _, _, _, _, _, _, _, _, _, _, _, _, _, _, _, _, _, _, _, _, _, _, _, _, _, _, _, _, _, _, _, _, _, rfl, Um HV.out.k0, Um HV.out.k1, Um HV.out.k2, Um HV.out.k3, Um HV.out.k4, Um HV.out.k5, Um HV.out.k6, Um HV.out.k7, Um HV.out.k8, Um HV.out.k9, Um HV.out.k10, Um HV.out.k11, Um HV.out.k12, Um HV.out.k13, Um HV.out.k14, Um HV.out.k15, Um HV.out.k16, Um HV.out.k17, Um HV.out.k18, Um HV.out.k19, Um HV.out.k20, Um HV.out.k21, fun _ => rfl, Um HV.out.k23, Um HV.out.k24, Um HV.out.k25, Um HV.out.k26, Um HV.out.k27, Um HV.out.k28, Um HV.out.k29, Um HV.out.k30, Um HV.out.k31, Um HV.out.k32, Um HV.out.k33, Um HV.out.k34, Um HV.out.k35, Um HV.out.k36, Um HV.out.k37, Um HV.out.k38, Um HV.out.k39, Um HV.out.k40, Um HV.out.k41, Um HV.out.k42, Um HV.out.k43, Um HV.out.k44, Um HV.out.k45, Um HV.out.k46, Um HV.out.k47, Um HV.out.k48, Um HV.out.k49, HV.out.g, HV.out.o⟩⟩
     ·simp at ho
      subst ho
      have H20 := Lib.hid (hall { on := 20, ground := .data } (by simp) (by decide))
      have H22 := Lib.hid (hall { on := 22, ground := .data } (by simp) (by decide))
      have H18 := Lib.hid (hall { on := 18, ground := .chain } (by simp) (by decide))
      clear hall hi
      have e0 := HV.out.k20 H20.out
      subst e0
      have e1 := HV.out.k22 H22.out
      subst e1
      have e2 := HV.out.k18 H18.out
      subst e2
      refine wpOp_step rfl (fun K' hK' => ?_)
      have HK := Lib.hid hK'
      clear hK'
      go_simp
      refine (HAD1.out _ HV.out.g.be).mono ?_
      rintro e wn ⟨rfl, bn⟩
      have hg := HV.out.g.below bn
      exact HK.out _ _ ⟨by simp [HJ.out.sz], ⟨_, _, _, _, _, _, _, _, _, _, _, _, _, _, _, _, _, _, _, _, _, _, _, _, _, _, _, _, _, _, _, _, _, _, _, _, _, _, _, _, _, _, _, _, _, _, _, _, _, _, rfl, Um HV.out.k0, Um HV.out.k1, Um HV.out.k2, Um HV.out.k3, Um HV.out.k4, Um HV.out.k5, Um HV.out.k6, Um HV.out.k7, Um HV.out.k8, Um HV.out.k9, Um HV.out.k10, Um HV.out.k11, Um HV.out.k12, Um HV.out.k13, Um HV.out.k14, Um HV.out.k15, Um HV.out.k16, Um HV.out.k17, Um HV.out.k18, Um HV.out.k19, Um HV.out.k20, Um HV.out.k21, Um HV.out.k22, fun _ => rfl, Um HV.out.k24, Um HV.out.k25, Um HV.out.k26, Um HV.out.k27, Um HV.out.k28, Um HV.out.k29, Um HV.out.k30, Um HV.out.k31, Um HV.out.k32, Um HV.out.k33, Um HV.out.k34, Um HV.out.k35, Um HV.out.k36, Um HV.out.k37, Um HV.out.k38, Um HV.out.k39, Um HV.out.k40, Um HV.out.k41, Um HV.out.k42, Um HV.out.k43, Um HV.out.k44, Um HV.out.k45, Um HV.out.k46, Um HV.out.k47, Um HV.out.k48, Um HV.out.k49, hg, (bn.block _ (Array.getElem?_eq_some_iff.1 HV.out.o).1).trans HV.out.o⟩⟩
     ·simp at ho
      subst ho
      have H18 := Lib.hid (hall { on := 18, ground := .guard } (by simp) (by decide))
      clear hall hi
      have e0 := HV.out.k18 H18.out
      subst e0
      refine wpOp_step rfl (fun K' hK' => ?_)
      have HK := Lib.hid hK'
      clear hK'
      go_simp
      exact HK.out _ _ ⟨by simp [HJ.out.sz], ⟨_, _, _, _, _, _, _, _, _, _, _, _, _, _, _, _, _, _, _, _, _, _, _, _, _, _, _, _, _, _, _, _, _, _, _, _, _, _, _, _, _, _, _, _, _, _, _, _, _, _, rfl, Um HV.out.k0, Um HV.out.k1, Um HV.out.k2, Um HV.out.k3, Um HV.out.k4, Um HV.out.k5, Um HV.out.k6, Um HV.out.k7, Um HV.out.k8, Um HV.out.k9, Um HV.out.k10, Um HV.out.k11, Um HV.out.k12, Um HV.out.k13, Um HV.out.k14, Um HV.out.k15, Um HV.out.k16, Um HV.out.k17, Um HV.out.k18, Um HV.out.k19, Um HV.out.k20, Um HV.out.k21, Um HV.out.k22, Um HV.out.k23, fun _ => rfl, Um HV.out.k25, Um HV.out.k26, Um HV.out.k27, Um HV.out.k28, Um HV.out.k29, Um HV.out.k30, Um HV.out.k31, Um HV.out.k32, Um HV.out.k33, Um HV.out.k34, Um HV.out.k35, Um HV.out.k36, Um HV.out.k37, Um HV.out.k38, Um HV.out.k39, Um HV.out.k40, Um HV.out.k41, Um HV.out.k42, Um HV.out.k43, Um HV.out.k44, Um HV.out.k45, Um HV.out.k46, Um HV.out.k47, Um HV.out.k48, Um HV.out.k49, HV.out.g, HV.out.o⟩⟩
     ·simp at ho
      subst ho
      have H24 := Lib.hid (hall { on := 24, ground := .data } (by simp) (by decide))
      have H18 := Lib.hid (hall { on := 18, ground := .guard } (by simp) (by decide))
      clear hall hi
      have e0 := HV.out.k24 H24.out
      subst e0
      have e1 := HV.out.k18 H18.out
      subst e1
      have hc := Lib.cell_of_heap HV.out.g.bx 4; simp [Lot.cells] at hc
      refine wpOp_step rfl (fun K' hK' => ?_)
      have HK := Lib.hid hK'
      clear hK'
      go_simp
      exact HK.out _ _ ⟨by simp [HJ.out.sz], ⟨_, _, _, _, _, _, _, _, _, _, _, _, _, _, _, _, _, _, _, _, _, _, _, _, _, _, _, _, _, _, _, _, _, _, _, _, _, _, _, _, _, _, _, _, _, _, _, _, _, _, rfl, Um HV.out.k0, Um HV.out.k1, Um HV.out.k2, Um HV.out.k3, Um HV.out.k4, Um HV.out.k5, Um HV.out.k6, Um HV.out.k7, Um HV.out.k8, Um HV.out.k9, Um HV.out.k10, Um HV.out.k11, Um HV.out.k12, Um HV.out.k13, Um HV.out.k14, Um HV.out.k15, Um HV.out.k16, Um HV.out.k17, Um HV.out.k18, Um HV.out.k19, Um HV.out.k20, Um HV.out.k21, Um HV.out.k22, Um HV.out.k23, Um HV.out.k24, fun _ => rfl, Um HV.out.k26, Um HV.out.k27, Um HV.out.k28, Um HV.out.k29, Um HV.out.k30, Um HV.out.k31, Um HV.out.k32, Um HV.out.k33, Um HV.out.k34, Um HV.out.k35, Um HV.out.k36, Um HV.out.k37, Um HV.out.k38, Um HV.out.k39, Um HV.out.k40, Um HV.out.k41, Um HV.out.k42, Um HV.out.k43, Um HV.out.k44, Um HV.out.k45, Um HV.out.k46, Um HV.out.k47, Um HV.out.k48, Um HV.out.k49, HV.out.g, HV.out.o⟩⟩
     ·simp at ho
      subst ho
      have H23 := Lib.hid (hall { on := 23, ground := .data } (by simp) (by decide))
      have H25 := Lib.hid (hall { on := 25, ground := .data } (by simp) (by decide))
      have H18 := Lib.hid (hall { on := 18, ground := .guard } (by simp) (by decide))
      clear hall hi
      have e0 := HV.out.k23 H23.out
      subst e0
      have e1 := HV.out.k25 H25.out
      subst e1
      have e2 := HV.out.k18 H18.out
      subst e2
      refine wpOp_step rfl (fun K' hK' => ?_)
      have HK := Lib.hid hK'
      clear hK'
      go_simp
      exact HK.out _ _ ⟨by simp [HJ.out.sz], ⟨_, _, _, _, _, _, _, _, _, _, _, _, _, _, _, _, _, _, _, _, _, _, _, _, _, _, _, _, _, _, _, _, _, _, _, _, _, _, _, _, _, _, _, _, _, _, _, _, _, _, rfl, Um HV.out.k0, Um HV.out.k1, Um HV.out.k2, Um HV.out.k3, Um HV.out.k4, Um HV.out.k5, Um HV.out.k6, Um HV.out.k7, Um HV.out.k8, Um HV.out.k9, Um HV.out.k10, Um HV.out.k11, Um HV.out.k12, Um HV.out.k13, Um HV.out.k14, Um HV.out.k15, Um HV.out.k16, Um HV.out.k17, Um HV.out.k18, Um HV.out.k19, Um HV.out.k20, Um HV.out.k21, Um HV.out.k22, Um HV.out.k23, Um HV.out.k24, Um HV.out.k25, fun _ => rfl, Um HV.out.k27, Um HV.out.k28, Um HV.out.k29, Um HV.out.k30, Um HV.out.k31, Um HV.out.k32, Um HV.out.k33, Um HV.out.k34, Um HV.out.k35, Um HV.out.k36, Um HV.out.k37, Um HV.out.k38, Um HV.out.k39, Um HV.out.k40, Um HV.out.k41, Um HV.out.k42, Um HV.out.k43, Um HV.out.k44, Um HV.out.k45, Um HV.out.k46, Um HV.out.k47, Um HV.out.k48, Um HV.out.k49, HV.out.g, HV.out.o⟩⟩
     ·simp at ho
      subst ho
      have H18 := Lib.hid (hall { on := 18, ground := .data } (by simp) (by decide))
      have H26 := Lib.hid (hall { on := 26, ground := .data } (by simp) (by decide))
      clear hall hi
      have e0 := HV.out.k18 H18.out
      subst e0
      have e1 := HV.out.k26 H26.out
      subst e1
      refine wpOp_step rfl (fun K' hK' => ?_)
      have HK := Lib.hid hK'
      clear hK'
      go_simp
      exact HK.out _ _ ⟨by simp [HJ.out.sz], ⟨_, _, _, _, _, _, _, _, _, _, _, _, _, _, _, _, _, _, _, _, _, _, _, _, _, _, _, _, _, _, _, _, _, _, _, _, _, _, _, _, _, _, _, _, _, _, _, _, _, _, rfl, Um HV.out.k0, Um HV.out.k1, Um HV.out.k2, Um HV.out.k3, Um HV.out.k4, Um HV.out.k5, Um HV.out.k6, Um HV.out.k7, Um HV.out.k8, Um HV.out.k9, Um HV.out.k10, Um HV.out.k11, Um HV.out.k12, Um HV.out.k13, Um HV.out.k14, Um HV.out.k15, Um HV.out.k16, Um HV.out.k17, Um HV.out.k18, Um HV.out.k19, Um HV.out.k20, Um HV.out.k21, Um HV.out.k22, Um HV.out.k23, Um HV.out.k24, Um HV.out.k25, Um HV.out.k26, fun _ => rfl, Um HV.out.k28, Um HV.out.k29, Um HV.out.k30, Um HV.out.k31, Um HV.out.k32, Um HV.out.k33, Um HV.out.k34, Um HV.out.k35, Um HV.out.k36, Um HV.out.k37, Um HV.out.k38, Um HV.out.k39, Um HV.out.k40, Um HV.out.k41, Um HV.out.k42, Um HV.out.k43, Um HV.out.k44, Um HV.out.k45, Um HV.out.k46, Um HV.out.k47, Um HV.out.k48, Um HV.out.k49, HV.out.g, HV.out.o⟩⟩
     ·simp at ho
      subst ho
      have H27 := Lib.hid (hall { on := 27, ground := .data } (by simp) (by decide))
      clear hall hi
      have e0 := HV.out.k27 H27.out
      subst e0
      refine wpOp_step rfl (fun K' hK' => ?_)
      have HK := Lib.hid hK'
      clear hK'
      go_simp
      exact HK.out _ _ ⟨by simp [HJ.out.sz], ⟨_, _, _, _, _, _, _, _, _, _, _, _, _, _, _, _, _, _, _, _, _, _, _, _, _, _, _, _, _, _, _, _, _, _, _, _, _, _, _, _, _, _, _, _, _, _, _, _, _, _, rfl, Um HV.out.k0, Um HV.out.k1, Um HV.out.k2, Um HV.out.k3, Um HV.out.k4, Um HV.out.k5, Um HV.out.k6, Um HV.out.k7, Um HV.out.k8, Um HV.out.k9, Um HV.out.k10, Um HV.out.k11, Um HV.out.k12, Um HV.out.k13, Um HV.out.k14, Um HV.out.k15, Um HV.out.k16, Um HV.out.k17, Um HV.out.k18, Um HV.out.k19, Um HV.out.k20, Um HV.out.k21, Um HV.out.k22, Um HV.out.k23, Um HV.out.k24, Um HV.out.k25, Um HV.out.k26, Um HV.out.k27, fun _ => rfl, Um HV.out.k29, Um HV.out.k30, Um HV.out.k31, Um HV.out.k32, Um HV.out.k33, Um HV.out.k34, Um HV.out.k35, Um HV.out.k36, Um HV.out.k37, Um HV.out.k38, Um HV.out.k39, Um HV.out.k40, Um HV.out.k41, Um HV.out.k42, Um HV.out.k43, Um HV.out.k44, Um HV.out.k45, Um HV.out.k46, Um HV.out.k47, Um HV.out.k48, Um HV.out.k49, HV.out.g, HV.out.o⟩⟩
     ·simp at ho
      subst ho
      have H28 := Lib.hid (hall { on := 28, ground := .guard } (by simp) (by decide))
      clear hall hi
      have e0 := HV.out.k28 H28.out
      subst e0
      refine wpOp_step rfl (fun K' hK' => ?_)
      have HK := Lib.hid hK'
      clear hK'
      go_simp
      exact HK.out _ _ ⟨by simp [HJ.out.sz], ⟨_, _, _, _, _, _, _, _, _, _, _, _, _, _, _, _, _, _, _, _, _, _, _, _, _, _, _, _, _, _, _, _, _, _, _, _, _, _, _, _, _, _, _, _, _, _, _, _, _, _, rfl, Um HV.out.k0, Um HV.out.k1, Um HV.out.k2, Um HV.out.k3, Um HV.out.k4, Um HV.out.k5, Um HV.out.k6, Um HV.out.k7, Um HV.out.k8, Um HV.out.k9, Um HV.out.k10, Um HV.out.k11, Um HV.out.k12, Um HV.out.k13, Um HV.out.k14, Um HV.out.k15, Um HV.out.k16, Um HV.out.k17, Um HV.out.k18, Um HV.out.k19, Um HV.out.k20, Um HV.out.k21, Um HV.out.k22, Um HV.out.k23, Um HV.out.k24, Um HV.out.k25, Um HV.out.k26, Um HV.out.k27, Um HV.out.k28, fun _ => rfl, Um HV.out.k30, Um HV.out.k31, Um HV.out.k32, Um HV.out.k33, Um HV.out.k34, Um HV.out.k35, Um HV.out.k36, Um HV.out.k37, Um HV.out.k38, Um HV.out.k39, Um HV.out.k40, Um HV.out.k41, Um HV.out.k42, Um HV.out.k43, Um HV.out.k44, Um HV.out.k45, Um HV.out.k46, Um HV.out.k47, Um HV.out.k48, Um HV.out.k49, HV.out.g, HV.out.o⟩⟩
     ·simp at ho
      subst ho
      have H29 := Lib.hid (hall { on := 29, ground := .data } (by simp) (by decide))
      have H28 := Lib.hid (hall { on := 28, ground := .guard } (by simp) (by decide))
      clear hall hi
      have e0 := HV.out.k29 H29.out
      subst e0
      have e1 := HV.out.k28 H28.out
      subst e1
      have hc := Lib.cell_of_heap HV.out.g.ba 5; simp [Lot.cells] at hc
      refine wpOp_step rfl (fun K' hK' => ?_)
      have HK := Lib.hid hK'
      clear hK'
      go_simp
      exact HK.out _ _ ⟨by simp [HJ.out.sz], ⟨_, _, _, _, _, _, _, _, _, _, _, _, _, _, _, _, _, _, _, _, _, _, _, _, _, _, _, _, _, _, _, _, _, _, _, _, _, _, _, _, _, _, _, _, _, _, _, _, _, _, rfl, Um HV.out.k0, Um HV.out.k1, Um HV.out.k2, Um HV.out.k3, Um HV.out.k4, Um HV.out.k5, Um HV.out.k6, Um HV.out.k7, Um HV.out.k8, Um HV.out.k9, Um HV.out.k10, Um HV.out.k11, Um HV.out.k12, Um HV.out.k13, Um HV.out.k14, Um HV.out.k15, Um HV.out.k16, Um HV.out.k17, Um HV.out.k18, Um HV.out.k19, Um HV.out.k20, Um HV.out.k21, Um HV.out.k22, Um HV.out.k23, Um HV.out.k24, Um HV.out.k25, Um HV.out.k26, Um HV.out.k27, Um HV.out.k28, Um HV.out.k29, fun _ => rfl, Um HV.out.k31, Um HV.out.k32, Um HV.out.k33, Um HV.out.k34, Um HV.out.k35, Um HV.out.k36, Um HV.out.k37, Um HV.out.k38, Um HV.out.k39, Um HV.out.k40, Um HV.out.k41, Um HV.out.k42, Um HV.out.k43, Um HV.out.k44, Um HV.out.k45, Um HV.out.k46, Um HV.out.k47, Um HV.out.k48, Um HV.out.k49, HV.out.g, HV.out.o⟩⟩
     ·simp at ho
      subst ho
      have H28 := Lib.hid (hall { on := 28, ground := .guard } (by simp) (by decide))
      clear hall hi
      have e0 := HV.out.k28 H28.out
      subst e0
      refine wpOp_step rfl (fun K' hK' => ?_)
      have HK := Lib.hid hK'
      clear hK'
      go_simp
      exact HK.out _ _ ⟨by simp [HJ.out.sz], ⟨_, _, _, _, _, _, _, _, _, _, _, _, _, _, _, _, _, _, _, _, _, _, _, _, _, _, _, _, _, _, _, _, _, _, _, _, _, _, _, _, _, _, _, _, _, _, _, _, _, _, rfl, Um HV.out.k0, Um HV.out.k1, Um HV.out.k2, Um HV.out.k3, Um HV.out.k4, Um HV.out.k5, Um HV.out.k6, Um HV.out.k7, Um HV.out.k8, Um HV.out.k9, Um HV.out.k10, Um HV.out.k11, Um HV.out.k12, Um HV.out.k13, Um HV.out.k14, Um HV.out.k15, Um HV.out.k16, Um HV.out.k17, Um HV.out.k18, Um HV.out.k19, Um HV.out.k20, Um HV.out.k21, Um HV.out.k22, Um HV.out.k23, Um HV.out.k24, Um HV.out.k25, Um HV.out.k26, Um HV.out.k27, Um HV.out.k28, Um HV.out.k29, Um HV.out.k30, fun _ => rfl, Um HV.out.k32, Um HV.out.k33, Um HV.out.k34, Um HV.out.k35, Um HV.out.k36, Um HV.out.k37, Um HV.out.k38, Um HV.out.k39, Um HV.out.k40, Um HV.out.k41, Um HV.out.k42, Um HV.out.k43, Um HV.out.k44, Um HV.out.k45, Um HV.out.k46, Um HV.out.k47, Um HV.out.k48, Um HV.out.k49, HV.out.g, HV.out.o⟩⟩
     ·simp at ho
      subst ho
      have H31 := Lib.hid (hall { on := 31, ground := .data } (by simp) (by decide))
      have H28 := Lib.hid (hall { on := 28, ground := .guard } (by simp) (by decide))
      clear hall hi
      have e0 := HV.out.k31 H31.out
      subst e0
      have e1 := HV.out.k28 H28.out
      subst e1
      have hc := Lib.cell_of_heap HV.out.g.bb 5; simp [Lot.cells] at hc
      refine wpOp_step rfl (fun K' hK' => ?_)
      have HK := Lib.hid hK'
      clear hK'
      go_simp
      exact HK.out _ _ ⟨by simp [HJ.out.sz], ⟨_, _, _, _, _, _, _, _, _, _, _, _, _, _, _, _, _, _, _, _, _, _, _, _, _, _, _, _, _, _, _, _, _, _, _, _, _, _, _, _, _, _, _, _, _, _, _, _, _, _, rfl, Um HV.out.k0, Um HV.out.k1, Um HV.out.k2, Um HV.out.k3, Um HV.out.k4, Um HV.out.k5, Um HV.out.k6, Um HV.out.k7, Um HV.out.k8, Um HV.out.k9, Um HV.out.k10, Um HV.out.k11, Um HV.out.k12, Um HV.out.k13, Um HV.out.k14, Um HV.out.k15, Um HV.out.k16, Um HV.out.k17, Um HV.out.k18, Um HV.out.k19, Um HV.out.k20, Um HV.out.k21, Um HV.out.k22, Um HV.out.k23, Um HV.out.k24, Um HV.out.k25, Um HV.out.k26, Um HV.out.k27, Um HV.out.k28, Um HV.out.k29, Um HV.out.k30, Um HV.out.k31, fun _ => rfl, Um HV.out.k33, Um HV.out.k34, Um HV.out.k35, Um HV.out.k36, Um HV.out.k37, Um HV.out.k38, Um HV.out.k39, Um HV.out.k40, Um HV.out.k41, Um HV.out.k42, Um HV.out.k43, Um HV.out.k44, Um HV.out.k45, Um HV.out.k46, Um HV.out.k47, Um HV.out.k48, Um HV.out.k49, HV.out.g, HV.out.o⟩⟩
     ·simp at ho
      subst ho
      have H30 := Lib.hid (hall { on := 30, ground := .data } (by simp) (by decide))
      have H32 := Lib.hid (hall { on := 32, ground := .data } (by simp) (by decide))
      have H28 := Lib.hid (hall { on := 28, ground := .chain } (by simp) (by decide))
      clear hall hi
      have e0 := HV.out.k30 H30.out
      subst e0
      have e1 := HV.out.k32 H32.out
      subst e1
      have e2 := HV.out.k28 H28.out
      subst e2
      refine wpOp_step rfl (fun K' hK' => ?_)
      have HK := Lib.hid hK'
      clear hK'
      go_simp
      refine (HAD2.out _ HV.out.g.be).mono ?_
      rintro e wn ⟨rfl, bn⟩
      have hg := HV.out.g.below bn
      exact HK.out _ _ ⟨by simp [HJ.out.sz], ⟨_, _, _, _, _, _, _, _, _, _, _, _, _, _, _, _, _, _, _, _, _, _, _, _, _, _, _, _, _, _, _, _, _, _, _, _, _, _, _, _, _, _, _, _, _, _, _, _, _, _, rfl, Um HV.out.k0, Um HV.out.k1, Um HV.out.k2, Um HV.out.k3, Um HV.out.k4, Um HV.out.k5, Um HV.out.k6, Um HV.out.k7, Um HV.out.k8, Um HV.out.k9, Um HV.out.k10, Um HV.out.k11, Um HV.out.k12, Um HV.out.k13, Um HV.out.k14, Um HV.out.k15, Um HV.out.k16, Um HV.out.k17, Um HV.out.k18, Um HV.out.k19, Um HV.out.k20, Um HV.out.k21, Um HV.out.k22, Um HV.out.k23, Um HV.out.k24, Um HV.out.k25, Um HV.out.k26, Um HV.out.k27, Um HV.out.k28, Um HV.out.k29, Um HV.out.k30, Um HV.out.k31, Um HV.out.k32, fun _ => rfl, Um HV.out.k34, Um HV.out.k35, Um HV.out.k36, Um HV.out.k37, Um HV.out.k38, Um HV.out.k39, Um HV.out.k40, Um HV.out.k41, Um HV.out.k42, Um HV.out.k43, Um HV.out.k44, Um HV.out.k45, Um HV.out.k46, Um HV.out.k47, Um HV.out.k48, Um HV.out.k49, hg, (bn.block _ (Array.getElem?_eq_some_iff.1 HV.out.o).1).trans HV.out.o⟩⟩
     ·simp at ho
      subst ho
      have H28 := Lib.hid (hall { on := 28, ground := .guard } (by simp) (by decide))
      clear hall hi
      have e0 := HV.out.k28 H28.out
      subst e0
      refine wpOp_step rfl (fun K' hK' => ?_)
      have HK := Lib.hid hK'
      clear hK'
      go_simp
      exact HK.out _ _ ⟨by simp [HJ.out.sz], ⟨_, _, _, _, _, _, _, _, _, _, _, _, _, _, _, _, _, _, _, _, _, _, _, _, _, _, _, _, _, _, _, _, _, _, _, _, _, _, _, _, _, _, _, _, _, _, _, _, _, _, rfl, Um HV.out.k0, Um HV.out.k1, Um HV.out.k2, Um HV.out.k3, Um HV.out.k4, Um HV.out.k5, Um HV.out.k6, Um HV.out.k7, Um HV.out.k8, Um HV.out.k9, Um HV.out.k10, Um HV.out.k11, Um HV.out.k12, Um HV.out.k13, Um HV.out.k14, Um HV.out.k15, Um HV.out.k16, Um HV.out.k17, Um HV.out.k18, Um HV.out.k19, Um HV.out.k20, Um HV.out.k21, Um HV.out.k22, Um HV.out.k23, Um HV.out.k24, Um HV.out.k25, Um HV.out.k26, Um HV.out.k27, Um HV.out.k28, Um HV.out.k29, Um HV.out.k30, Um HV.out.k31, Um HV.out.k32, Um HV.out.k33, fun _ => rfl, Um HV.out.k35, Um HV.out.k36, Um HV.out.k37, Um HV.out.k38, Um HV.out.k39, Um HV.out.k40, Um HV.out.k41, Um HV.out.k42, Um HV.out.k43, Um HV.out.k44, Um HV.out.k45, Um HV.out.k46, Um HV.out.k47, Um HV.out.k48, Um HV.out.k49, HV.out.g, HV.out.o⟩⟩
     ·simp at ho
      subst ho
      have H34 := Lib.hid (hall { on := 34, ground := .data } (by simp) (by decide))
      have H28 := Lib.hid (hall { on := 28, ground := .guard } (by simp) (by decide))
      clear hall hi
      have e0 := HV.out.k34 H34.out
      subst e0
      have e1 := HV.out.k28 H28.out
      subst e1
      have hc := Lib.cell_of_heap HV.out.g.bx 5; simp [Lot.cells] at hc
      refine wpOp_step rfl (fun K' hK' => ?_)
      have HK := Lib.hid hK'
      clear hK'
      go_simp
      exact HK.out _ _ ⟨by simp [HJ.out.sz], ⟨_, _, _, _, _, _, _, _, _, _, _, _, _, _, _, _, _, _, _, _, _, _, _, _, _, _, _, _, _, _, _, _, _, _, _, _, _, _, _, _, _, _, _, _, _, _, _, _, _, _, rfl, Um HV.out.k0, Um HV.out.k1, Um HV.out.k2, Um HV.out.k3, Um HV.out.k4, Um HV.out.k5, Um HV.out.k6, Um HV.out.k7, Um HV.out.k8, Um HV.out.k9, Um HV.out.k10, Um HV.out.k11, Um HV.out.k12, Um HV.out.k13, Um HV.out.k14, Um HV.out.k15, Um HV.out.k16, Um HV.out.k17, Um HV.out.k18, Um HV.out.k19, Um HV.out.k20, Um HV.out.k21, Um HV.out.k22, Um HV.out.k23, Um HV.out.k24, Um HV.out.k25, Um HV.out.k26, Um HV.out.k27, Um HV.out.k28, Um HV.out.k29, Um HV.out.k30, Um HV.out.k31, Um HV.out.k32, Um HV.out.k33, Um HV.out.k34, fun _ => rfl, Um HV.out.k36, Um HV.out.k37, Um HV.out.k38, Um HV.out.k39, Um HV.out.k40, Um HV.out.k41, Um HV.out.k42, Um HV.out.k43, Um HV.out.k44, Um HV.out.k45, Um HV.out.k46, Um HV.out.k47, Um HV.out.k48, Um HV.out.k49, HV.out.g, HV.out.o⟩⟩
     ·simp at ho
      subst ho
      have H33 := Lib.hid (hall { on := 33, ground := .data } (by simp) (by decide))
      have H35 := Lib.hid (hall { on := 35, ground := .data } (by simp) (by decide))
      have H28 := Lib.hid (hall { on := 28, ground := .guard } (by simp) (by decide))
      clear hall hi
      have e0 := HV.out.k33 H33.out
      subst e0
      have e1 := HV.out.k35 H35.out
      subst e1
      have e2 := HV.out.k28 H28.out
      subst e2
      refine wpOp_step rfl (fun K' hK' => ?_)
      have HK := Lib.hid hK'
      clear hK'
      go_simp
      exact HK.out _ _ ⟨by simp [HJ.out.sz], ⟨_, _, _, _, _, _, _, _, _, _, _, _, _, _, _, _, _, _, _, _, _, _, _, _, _, _, _, _, _, _, _, _, _, _, _, _, _, _, _, _, _, _, _, _, _, _, _, _, _, _, rfl, Um HV.out.k0, Um HV.out.k1, Um HV.out.k2, Um HV.out.k3, Um HV.out.k4, Um HV.out.k5, Um HV.out.k6, Um HV.out.k7, Um HV.out.k8, Um HV.out.k9, Um HV.out.k10, Um HV.out.k11, Um HV.out.k12, Um HV.out.k13, Um HV.out.k14, Um HV.out.k15, Um HV.out.k16, Um HV.out.k17, Um HV.out.k18, Um HV.out.k19, Um HV.out.k20, Um HV.out.k21, Um HV.out.k22, Um HV.out.k23, Um HV.out.k24, Um HV.out.k25, Um HV.out.k26, Um HV.out.k27, Um HV.out.k28, Um HV.out.k29, Um HV.out.k30, Um HV.out.k31, Um HV.out.k32, Um HV.out.k33, Um HV.out.k34, Um HV.out.k35, fun _ => rfl, Um HV.out.k37, Um HV.out.k38, Um HV.out.k39, Um HV.out.k40, Um HV.out.k41, Um HV.out.k42, Um HV.out.k43, Um HV.out.k44, Um HV.out.k45, Um HV.out.k46, Um HV.out.k47, Um HV.out.k48, Um HV.out.k49, HV.out.g, HV.out.o⟩⟩
     ·simp at ho
      subst ho
      have H28 := Lib.hid (hall { on := 28, ground := .data } (by simp) (by decide))
      have H36 := Lib.hid (hall { on := 36, ground := .data } (by simp) (by decide))
      clear hall hi
      have e0 := HV.out.k28 H28.out
      subst e0
      have e1 := HV.out.k36 H36.out
      subst e1
      refine wpOp_step rfl (fun K' hK' => ?_)
      have HK := Lib.hid hK'
      clear hK'
      go_simp
      exact HK.out _ _ ⟨by simp [HJ.out.sz], ⟨_, _, _, _, _, _, _, _, _, _, _, _, _, _, _, _, _, _, _, _, _, _, _, _, _, _, _, _, _, _, _, _, _, _, _, _, _, _, _, _, _, _, _, _, _, _, _, _, _, _, rfl, Um HV.out.k0, Um HV.out.k1, Um HV.out.k2, Um HV.out.k3, Um HV.out.k4, Um HV.out.k5, Um HV.out.k6, Um HV.out.k7, Um HV.out.k8, Um HV.out.k9, Um HV.out.k10, Um HV.out.k11, Um HV.out.k12, Um HV.out.k13, Um HV.out.k14, Um HV.out.k15, Um HV.out.k16, Um HV.out.k17, Um HV.out.k18, Um HV.out.k19, Um HV.out.k20, Um HV.out.k21, Um HV.out.k22, Um HV.out.k23, Um HV.out.k24, Um HV.out.k25, Um HV.out.k26, Um HV.out.k27, Um HV.out.k28, Um HV.out.k29, Um HV.out.k30, Um HV.out.k31, Um HV.out.k32, Um HV.out.k33, Um HV.out.k34, Um HV.out.k35, Um HV.out.k36, fun _ => rfl, Um HV.out.k38, Um HV.out.k39, Um HV.out.k40, Um HV.out.k41, Um HV.out.k42, Um HV.out.k43, Um HV.out.k44, Um HV.out.k45, Um HV.out.k46, Um HV.out.k47, Um HV.out.k48, Um HV.out.k49, HV.out.g, HV.out.o⟩⟩
     ·simp at ho
      subst ho
      have H37 := Lib.hid (hall { on := 37, ground := .data } (by simp) (by decide))
      clear hall hi
      have e0 := HV.out.k37 H37.out
      subst e0
      refine wpOp_step rfl (fun K' hK' => ?_)
      have HK := Lib.hid hK'
      clear hK'
      go_simp
      exact HK.out _ _ ⟨by simp [HJ.out.sz], ⟨_, _, _, _, _, _, _, _, _, _, _, _, _, _, _, _, _, _, _, _, _, _, _, _, _, _, _, _, _, _, _, _, _, _, _, _, _, _, _, _, _, _, _, _, _, _, _, _, _, _, rfl, Um HV.out.k0, Um HV.out.k1, Um HV.out.k2, Um HV.out.k3, Um HV.out.k4, Um HV.out.k5, Um HV.out.k6, Um HV.out.k7, Um HV.out.k8, Um HV.out.k9, Um HV.out.k10, Um HV.out.k11, Um HV.out.k12, Um HV.out.k13, Um HV.out.k14, Um HV.out.k15, Um HV.out.k16, Um HV.out.k17, Um HV.out.k18, Um HV.out.k19, Um HV.out.k20, Um HV.out.k21, Um HV.out.k22, Um HV.out.k23, Um HV.out.k24, Um HV.out.k25, Um HV.out.k26, Um HV.out.k27, Um HV.out.k28, Um HV.out.k29, Um HV.out.k30, Um HV.out.k31, Um HV.out.k32, Um HV.out.k33, Um HV.out.k34, Um HV.out.k35, Um HV.out.k36, Um HV.out.k37, fun _ => rfl, Um HV.out.k39, Um HV.out.k40, Um HV.out.k41, Um HV.out.k42, Um HV.out.k43, Um HV.out.k44, Um HV.out.k45, Um HV.out.k46, Um HV.out.k47, Um HV.out.k48, Um HV.out.k49, HV.out.g, HV.out.o⟩⟩
     ·simp at ho
      subst ho
      have H38 := Lib.hid (hall { on := 38, ground := .guard } (by simp) (by decide))
      clear hall hi
      have e0 := HV.out.k38 H38.out
      subst e0
      have n0 := Lib.cell_of_heap HV.out.o 0; have n1 := Lib.cell_of_heap HV.out.o 1; simp at n0 n1
      refine wpOp_step rfl (fun K' hK' => ?_)
      have HK := Lib.hid hK'
      clear hK'
      go_simp
      exact HK.out _ _ ⟨by simp [HJ.out.sz], ⟨_, _, _, _, _, _, _, _, _, _, _, _, _, _, _, _, _, _, _, _, _, _, _, _, _, _, _, _, _, _, _, _, _, _, _, _, _, _, _, _, _, _, _, _, _, _, _, _, _, _, rfl, Um HV.out.k0, Um HV.out.k1, Um HV.out.k2, Um HV.out.k3, Um HV.out.k4, Um HV.out.k5, Um HV.out.k6, Um HV.out.k7, Um HV.out.k8, Um HV.out.k9, Um HV.out.k10, Um HV.out.k11, Um HV.out.k12, Um HV.out.k13, Um HV.out.k14, Um HV.out.k15, Um HV.out.k16, Um HV.out.k17, Um HV.out.k18, Um HV.out.k19, Um HV.out.k20, Um HV.out.k21, Um HV.out.k22, Um HV.out.k23, Um HV.out.k24, Um HV.out.k25, Um HV.out.k26, Um HV.out.k27, Um HV.out.k28, Um HV.out.k29, Um HV.out.k30, Um HV.out.k31, Um HV.out.k32, Um HV.out.k33, Um HV.out.k34, Um HV.out.k35, Um HV.out.k36, Um HV.out.k37, Um HV.out.k38, fun _ => rfl, Um HV.out.k40, Um HV.out.k41, Um HV.out.k42, Um HV.out.k43, Um HV.out.k44, Um HV.out.k45, Um HV.out.k46, Um HV.out.k47, Um HV.out.k48, Um HV.out.k49, HV.out.g, HV.out.o⟩⟩
     ·simp at ho
      subst ho
      have H38 := Lib.hid (hall { on := 38, ground := .guard } (by simp) (by decide))
      clear hall hi
      have e0 := HV.out.k38 H38.out
      subst e0
      have n0 := Lib.cell_of_heap HV.out.o 0; have n1 := Lib.cell_of_heap HV.out.o 1; simp at n0 n1
      refine wpOp_step rfl (fun K' hK' => ?_)
      have HK := Lib.hid hK'
      clear hK'
      go_simp
      exact HK.out _ _ ⟨by simp [HJ.out.sz], ⟨_, _, _, _, _, _, _, _, _, _, _, _, _, _, _, _, _, _, _, _, _, _, _, _, _, _, _, _, _, _, _, _, _, _, _, _, _, _, _, _, _, _, _, _, _, _, _, _, _, _, rfl, Um HV.out.k0, Um HV.out.k1, Um HV.out.k2, Um HV.out.k3, Um HV.out.k4, Um HV.out.k5, Um HV.out.k6, Um HV.out.k7, Um HV.out.k8, Um HV.out.k9, Um HV.out.k10, Um HV.out.k11, Um HV.out.k12, Um HV.out.k13, Um HV.out.k14, Um HV.out.k15, Um HV.out.k16, Um HV.out.k17, Um HV.out.k18, Um HV.out.k19, Um HV.out.k20, Um HV.out.k21, Um HV.out.k22, Um HV.out.k23, Um HV.out.k24, Um HV.out.k25, Um HV.out.k26, Um HV.out.k27, Um HV.out.k28, Um HV.out.k29, Um HV.out.k30, Um HV.out.k31, Um HV.out.k32, Um HV.out.k33, Um HV.out.k34, Um HV.out.k35, Um HV.out.k36, Um HV.out.k37, Um HV.out.k38, Um HV.out.k39, fun _ => rfl, Um HV.out.k41, Um HV.out.k42, Um HV.out.k43, Um HV.out.k44, Um HV.out.k45, Um HV.out.k46, Um HV.out.k47, Um HV.out.k48, Um HV.out.k49, HV.out.g, HV.out.o⟩⟩
     ·simp at ho
      subst ho
      have H39 := Lib.hid (hall { on := 39, ground := .data } (by simp) (by decide))
      have H40 := Lib.hid (hall { on := 40, ground := .data } (by simp) (by decide))
      have H38 := Lib.hid (hall { on := 38, ground := .chain } (by simp) (by decide))
      clear hall hi
      have e0 := HV.out.k39 H39.out
      subst e0
      have e1 := HV.out.k40 H40.out
      subst e1
      have e2 := HV.out.k38 H38.out
      subst e2
      refine wpOp_step rfl (fun K' hK' => ?_)
      have HK := Lib.hid hK'
      clear hK'
      go_simp
      refine (HFA.out _ HV.out.g.be).mono ?_
      rintro e wn ⟨rfl, bn⟩
      have hg := HV.out.g.below bn
      exact HK.out _ _ ⟨by simp [HJ.out.sz], ⟨_, _, _, _, _, _, _, _, _, _, _, _, _, _, _, _, _, _, _, _, _, _, _, _, _, _, _, _, _, _, _, _, _, _, _, _, _, _, _, _, _, _, _, _, _, _, _, _, _, _, rfl, Um HV.out.k0, Um HV.out.k1, Um HV.out.k2, Um HV.out.k3, Um HV.out.k4, Um HV.out.k5, Um HV.out.k6, Um HV.out.k7, Um HV.out.k8, Um HV.out.k9, Um HV.out.k10, Um HV.out.k11, Um HV.out.k12, Um HV.out.k13, Um HV.out.k14, Um HV.out.k15, Um HV.out.k16, Um HV.out.k17, Um HV.out.k18, Um HV.out.k19, Um HV.out.k20, Um HV.out.k21, Um HV.out.k22, Um HV.out.k23, Um HV.out.k24, Um HV.out.k25, Um HV.out.k26, Um HV.out.k27, Um HV.out.k28, Um HV.out.k29, Um HV.out.k30, Um HV.out.k31, Um HV.out.k32, Um HV.out.k33, Um HV.out.k34, Um HV.out.k35, Um HV.out.k36, Um HV.out.k37, Um HV.out.k38, Um HV.out.k39, Um HV.out.k40, fun _ => rfl, Um HV.out.k42, Um HV.out.k43, Um HV.out.k44, Um HV.out.k45, Um HV.out.k46, Um HV.out.k47, Um HV.out.k48, Um HV.out.k49, hg, (bn.block _ (Array.getElem?_eq_some_iff.1 HV.out.o).1).trans HV.out.o⟩⟩
     ·simp at ho
      subst ho
      have H38 := Lib.hid (hall { on := 38, ground := .guard } (by simp) (by decide))
      clear hall hi
      have e0 := HV.out.k38 H38.out
      subst e0
      refine wpOp_step rfl (fun K' hK' => ?_)
      have HK := Lib.hid hK'
      clear hK'
      go_simp
      refine (HF1.out _ HV.out.g.be).mono ?_
      rintro e wn ⟨rfl, bn⟩
      have hg := HV.out.g.below bn
      exact HK.out _ _ ⟨by simp [HJ.out.sz], ⟨_, _, _, _, _, _, _, _, _, _, _, _, _, _, _, _, _, _, _, _, _, _, _, _, _, _, _, _, _, _, _, _, _, _, _, _, _, _, _, _, _, _, _, _, _, _, _, _, _, _, rfl, Um HV.out.k0, Um HV.out.k1, Um HV.out.k2, Um HV.out.k3, Um HV.out.k4, Um HV.out.k5, Um HV.out.k6, Um HV.out.k7, Um HV.out.k8, Um HV.out.k9, Um HV.out.k10, Um HV.out.k11, Um HV.out.k12, Um HV.out.k13, Um HV.out.k14, Um HV.out.k15, Um HV.out.k16, Um HV.out.k17, Um HV.out.k18, Um HV.out.k19, Um HV.out.k20, Um HV.out.k21, Um HV.out.k22, Um HV.out.k23, Um HV.out.k24, Um HV.out.k25, Um HV.out.k26, Um HV.out.k27, Um HV.out.k28, Um HV.out.k29, Um HV.out.k30, Um HV.out.k31, Um HV.out.k32, Um HV.out.k33, Um HV.out.k34, Um HV.out.k35, Um HV.out.k36, Um HV.out.k37, Um HV.out.k38, Um HV.out.k39, Um HV.out.k40, Um HV.out.k41, fun _ => rfl, Um HV.out.k43, Um HV.out.k44, Um HV.out.k45, Um HV.out.k46, Um HV.out.k47, Um HV.out.k48, Um HV.out.k49, hg, (bn.block _ (Array.getElem?_eq_some_iff.1 HV.out.o).1).trans HV.out.o⟩⟩
     ·simp at ho
      subst ho
      have H41 := Lib.hid (hall { on := 41, ground := .data } (by simp) (by decide))
      have H42 := Lib.hid (hall { on := 42, ground := .data } (by simp) (by decide))
      have H38 := Lib.hid (hall { on := 38, ground := .guard } (by simp) (by decide))
      clear hall hi
      have e0 := HV.out.k41 H41.out
      subst e0
      have e1 := HV.out.k42 H42.out
      subst e1
      have e2 := HV.out.k38 H38.out
      subst e2
      refine wpOp_step rfl (fun K' hK' => ?_)
      have HK := Lib.hid hK'
      clear hK'
      go_simp
      refine (HFC.out _ HV.out.g.be).mono ?_
      rintro e wn ⟨rfl, bn⟩
      have hg := HV.out.g.below bn
      exact HK.out _ _ ⟨by simp [HJ.out.sz], ⟨_, _, _, _, _, _, _, _, _, _, _, _, _, _, _, _, _, _, _, _, _, _, _, _, _, _, _, _, _, _, _, _, _, _, _, _, _, _, _, _, _, _, _, _, _, _, _, _, _, _, rfl, Um HV.out.k0, Um HV.out.k1, Um HV.out.k2, Um HV.out.k3, Um HV.out.k4, Um HV.out.k5, Um HV.out.k6, Um HV.out.k7, Um HV.out.k8, Um HV.out.k9, Um HV.out.k10, Um HV.out.k11, Um HV.out.k12, Um HV.out.k13, Um HV.out.k14, Um HV.out.k15, Um HV.out.k16, Um HV.out.k17, Um HV.out.k18, Um HV.out.k19, Um HV.out.k20, Um HV.out.k21, Um HV.out.k22, Um HV.out.k23, Um HV.out.k24, Um HV.out.k25, Um HV.out.k26, Um HV.out.k27, Um HV.out.k28, Um HV.out.k29, Um HV.out.k30, Um HV.out.k31, Um HV.out.k32, Um HV.out.k33, Um HV.out.k34, Um HV.out.k35, Um HV.out.k36, Um HV.out.k37, Um HV.out.k38, Um HV.out.k39, Um HV.out.k40, Um HV.out.k41, Um HV.out.k42, fun _ => rfl, Um HV.out.k44, Um HV.out.k45, Um HV.out.k46, Um HV.out.k47, Um HV.out.k48, Um HV.out.k49, hg, (bn.block _ (Array.getElem?_eq_some_iff.1 HV.out.o).1).trans HV.out.o⟩⟩
     ·simp at ho
      subst ho
      have H43 := Lib.hid (hall { on := 43, ground := .data } (by simp) (by decide))
      have H38 := Lib.hid (hall { on := 38, ground := .guard } (by simp) (by decide))
      clear hall hi
      have e0 := HV.out.k43 H43.out
      subst e0
      have e1 := HV.out.k38 H38.out
      subst e1
      have hle := HLE.out
      refine wpOp_step rfl (fun K' hK' => ?_)
      have HK := Lib.hid hK'
      clear hK'
      go_simp
      exact HK.out _ _ ⟨by simp [HJ.out.sz], ⟨_, _, _, _, _, _, _, _, _, _, _, _, _, _, _, _, _, _, _, _, _, _, _, _, _, _, _, _, _, _, _, _, _, _, _, _, _, _, _, _, _, _, _, _, _, _, _, _, _, _, rfl, Um HV.out.k0, Um HV.out.k1, Um HV.out.k2, Um HV.out.k3, Um HV.out.k4, Um HV.out.k5, Um HV.out.k6, Um HV.out.k7, Um HV.out.k8, Um HV.out.k9, Um HV.out.k10, Um HV.out.k11, Um HV.out.k12, Um HV.out.k13, Um HV.out.k14, Um HV.out.k15, Um HV.out.k16, Um HV.out.k17, Um HV.out.k18, Um HV.out.k19, Um HV.out.k20, Um HV.out.k21, Um HV.out.k22, Um HV.out.k23, Um HV.out.k24, Um HV.out.k25, Um HV.out.k26, Um HV.out.k27, Um HV.out.k28, Um HV.out.k29, Um HV.out.k30, Um HV.out.k31, Um HV.out.k32, Um HV.out.k33, Um HV.out.k34, Um HV.out.k35, Um HV.out.k36, Um HV.out.k37, Um HV.out.k38, Um HV.out.k39, Um HV.out.k40, Um HV.out.k41, Um HV.out.k42, Um HV.out.k43, fun _ => rfl, Um HV.out.k45, Um HV.out.k46, Um HV.out.k47, Um HV.out.k48, Um HV.out.k49, HV.out.g, HV.out.o⟩⟩
     ·simp at ho
      subst ho
      have H38 := Lib.hid (hall { on := 38, ground := .data } (by simp) (by decide))
      have H44 := Lib.hid (hall { on := 44, ground := .data } (by simp) (by decide))
      clear hall hi
      have e0 := HV.out.k38 H38.out
      subst e0
      have e1 := HV.out.k44 H44.out
      subst e1
      refine wpOp_step rfl (fun K' hK' => ?_)
      have HK := Lib.hid hK'
      clear hK'
      go_simp
      exact HK.out _ _ ⟨by simp [HJ.out.sz], ⟨_, _, _, _, _, _, _, _, _, _, _, _, _, _, _, _, _, _, _, _, _, _, _, _, _, _, _, _, _, _, _, _, _, _, _, _, _, _, _, _, _, _, _, _, _, _, _, _, _, _, rfl, Um HV.out.k0, Um HV.out.k1, Um HV.out.k2, Um HV.out.k3, Um HV.out.k4, Um HV.out.k5, Um HV.out.k6, Um HV.out.k7, Um HV.out.k8, Um HV.out.k9, Um HV.out.k10, Um HV.out.k11, Um HV.out.k12, Um HV.out.k13, Um HV.out.k14, Um HV.out.k15, Um HV.out.k16, Um HV.out.k17, Um HV.out.k18, Um HV.out.k19, Um HV.out.k20, Um HV.out.k21, Um HV.out.k22, Um HV.out.k23, Um HV.out.k24, Um HV.out.k25, Um HV.out.k26, Um HV.out.k27, Um HV.out.k28, Um HV.out.k29, Um HV.out.k30, Um HV.out.k31, Um HV.out.k32, Um HV.out.k33, Um HV.out.k34, Um HV.out.k35, Um HV.out.k36, Um HV.out.k37, Um HV.out.k38, Um HV.out.k39, Um HV.out.k40, Um HV.out.k41, Um HV.out.k42, Um HV.out.k43, Um HV.out.k44, fun _ => rfl, Um HV.out.k46, Um HV.out.k47, Um HV.out.k48, Um HV.out.k49, HV.out.g, HV.out.o⟩⟩
     ·simp at ho
      subst ho
      have H45 := Lib.hid (hall { on := 45, ground := .data } (by simp) (by decide))
      clear hall hi
      have e0 := HV.out.k45 H45.out
      subst e0
      refine wpOp_step rfl (fun K' hK' => ?_)
      have HK := Lib.hid hK'
      clear hK'
      go_simp
      exact HK.out _ _ ⟨by simp [HJ.out.sz], ⟨_, _, _, _, _, _, _, _, _, _, _, _, _, _, _, _, _, _, _, _, _, _, _, _, _, _, _, _, _, _, _, _, _, _, _, _, _, _, _, _, _, _, _, _, _, _, _, _, _, _, rfl, Um HV.out.k0, Um HV.out.k1, Um HV.out.k2, Um HV.out.k3, Um HV.out.k4, Um HV.out.k5, Um HV.out.k6, Um HV.out.k7, Um HV.out.k8, Um HV.out.k9, Um HV.out.k10, Um HV.out.k11, Um HV.out.k12, Um HV.out.k13, Um HV.out.k14, Um HV.out.k15, Um HV.out.k16, Um HV.out.k17, Um HV.out.k18, Um HV.out.k19, Um HV.out.k20, Um HV.out.k21, Um HV.out.k22, Um HV.out.k23, Um HV.out.k24, Um HV.out.k25, Um HV.out.k26, Um HV.out.k27, Um HV.out.k28, Um HV.out.k29, Um HV.out.k30, Um HV.out.k31, Um HV.out.k32, Um HV.out.k33, Um HV.out.k34, Um HV.out.k35, Um HV.out.k36, Um HV.out.k37, Um HV.out.k38, Um HV.out.k39, Um HV.out.k40, Um HV.out.k41, Um HV.out.k42, Um HV.out.k43, Um HV.out.k44, Um HV.out.k45, fun _ => rfl, Um HV.out.k47, Um HV.out.k48, Um HV.out.k49, HV.out.g, HV.out.o⟩⟩
     ·simp at ho
      subst ho
      have H46 := Lib.hid (hall { on := 46, ground := .chain } (by simp) (by decide))
      clear hall hi
      have e0 := HV.out.k46 H46.out
      subst e0
      refine wpOp_step rfl (fun K' hK' => ?_)
      have HK := Lib.hid hK'
      clear hK'
      go_simp
      refine (HAW.out _ HV.out.g.be).mono ?_
      rintro e wn ⟨rfl, bn⟩
      have hg := HV.out.g.below bn
      exact HK.out _ _ ⟨by simp [HJ.out.sz], ⟨_, _, _, _, _, _, _, _, _, _, _, _, _, _, _, _, _, _, _, _, _, _, _, _, _, _, _, _, _, _, _, _, _, _, _, _, _, _, _, _, _, _, _, _, _, _, _, _, _, _, rfl, Um HV.out.k0, Um HV.out.k1, Um HV.out.k2, Um HV.out.k3, Um HV.out.k4, Um HV.out.k5, Um HV.out.k6, Um HV.out.k7, Um HV.out.k8, Um HV.out.k9, Um HV.out.k10, Um HV.out.k11, Um HV.out.k12, Um HV.out.k13, Um HV.out.k14, Um HV.out.k15, Um HV.out.k16, Um HV.out.k17, Um HV.out.k18, Um HV.out.k19, Um HV.out.k20, Um HV.out.k21, Um HV.out.k22, Um HV.out.k23, Um HV.out.k24, Um HV.out.k25, Um HV.out.k26, Um HV.out.k27, Um HV.out.k28, Um HV.out.k29, Um HV.out.k30, Um HV.out.k31, Um HV.out.k32, Um HV.out.k33, Um HV.out.k34, Um HV.out.k35, Um HV.out.k36, Um HV.out.k37, Um HV.out.k38, Um HV.out.k39, Um HV.out.k40, Um HV.out.k41, Um HV.out.k42, Um HV.out.k43, Um HV.out.k44, Um HV.out.k45, Um HV.out.k46, fun _ => rfl, Um HV.out.k48, Um HV.out.k49, hg, (bn.block _ (Array.getElem?_eq_some_iff.1 HV.out.o).1).trans HV.out.o⟩⟩
     ·simp at ho
      subst ho
      have H46 := Lib.hid (hall { on := 46, ground := .data } (by simp) (by decide))
      have H47 := Lib.hid (hall { on := 47, ground := .data } (by simp) (by decide))
      clear hall hi
      have e0 := HV.out.k46 H46.out
      subst e0
      have e1 := HV.out.k47 H47.out
      subst e1
      refine wpOp_step rfl (fun K' hK' => ?_)
      have HK := Lib.hid hK'
      clear hK'
      go_simp
      exact HK.out _ _ ⟨by simp [HJ.out.sz], ⟨_, _, _, _, _, _, _, _, _, _, _, _, _, _, _, _, _, _, _, _, _, _, _, _, _, _, _, _, _, _, _, _, _, _, _, _, _, _, _, _, _, _, _, _, _, _, _, _, _, _, rfl, Um HV.out.k0, Um HV.out.k1, Um HV.out.k2, Um HV.out.k3, Um HV.out.k4, Um HV.out.k5, Um HV.out.k6, Um HV.out.k7, Um HV.out.k8, Um HV.out.k9, Um HV.out.k10, Um HV.out.k11, Um HV.out.k12, Um HV.out.k13, Um HV.out.k14, Um HV.out.k15, Um HV.out.k16, Um HV.out.k17, Um HV.out.k18, Um HV.out.k19, Um HV.out.k20, Um HV.out.k21, Um HV.out.k22, Um HV.out.k23, Um HV.out.k24, Um HV.out.k25, Um HV.out.k26, Um HV.out.k27, Um HV.out.k28, Um HV.out.k29, Um HV.out.k30, Um HV.out.k31, Um HV.out.k32, Um HV.out.k33, Um HV.out.k34, Um HV.out.k35, Um HV.out.k36, Um HV.out.k37, Um HV.out.k38, Um HV.out.k39, Um HV.out.k40, Um HV.out.k41, Um HV.out.k42, Um HV.out.k43, Um HV.out.k44, Um HV.out.k45, Um HV.out.k46, Um HV.out.k47, fun _ => rfl, Um HV.out.k49, HV.out.g, HV.out.o⟩⟩
     ·simp at ho
      subst ho
      have H48 := Lib.hid (hall { on := 48, ground := .data } (by simp) (by decide))
      clear hall hi
      have e0 := HV.out.k48 H48.out
      subst e0
      refine wpOp_step rfl (fun K' hK' => ?_)
      have HK := Lib.hid hK'
      clear hK'
      go_simp
      exact HK.out _ _ ⟨by simp [HJ.out.sz], ⟨_, _, _, _, _, _, _, _, _, _, _, _, _, _, _, _, _, _, _, _, _, _, _, _, _, _, _, _, _, _, _, _, _, _, _, _, _, _, _, _, _, _, _, _, _, _, _, _, _, _, rfl, Um HV.out.k0, Um HV.out.k1, Um HV.out.k2, Um HV.out.k3, Um HV.out.k4, Um HV.out.k5, Um HV.out.k6, Um HV.out.k7, Um HV.out.k8, Um HV.out.k9, Um HV.out.k10, Um HV.out.k11, Um HV.out.k12, Um HV.out.k13, Um HV.out.k14, Um HV.out.k15, Um HV.out.k16, Um HV.out.k17, Um HV.out.k18, Um HV.out.k19, Um HV.out.k20, Um HV.out.k21, Um HV.out.k22, Um HV.out.k23, Um HV.out.k24, Um HV.out.k25, Um HV.out.k26, Um HV.out.k27, Um HV.out.k28, Um HV.out.k29, Um HV.out.k30, Um HV.out.k31, Um HV.out.k32, Um HV.out.k33, Um HV.out.k34, Um HV.out.k35, Um HV.out.k36, Um HV.out.k37, Um HV.out.k38, Um HV.out.k39, Um HV.out.k40, Um HV.out.k41, Um HV.out.k42, Um HV.out.k43, Um HV.out.k44, Um HV.out.k45, Um HV.out.k46, Um HV.out.k47, Um HV.out.k48, fun _ => rfl, HV.out.g, HV.out.o⟩⟩
  case stLD =>
   intro L a w' hj i hi
   obtain ⟨hun, o, ho, hall⟩ := mem_ready.1 hi
   have hoff := getD_off hun
   have hlt := (Array.getElem?_eq_some_iff.1 ho).1
   simp at hlt
   obtain ⟨Bo, s13, s62, s63, s64, s65, s66, rfl, hv⟩ := hj.fr
   have HV := Lib.hid hv
   have HJ := Lib.hid hj
   clear hv hj
   rcases (show i = 0 ∨ i = 1 ∨ i = 2 ∨ i = 3 ∨ i = 4 ∨ i = 5 ∨ i = 6 from by omega) with rfl | rfl | rfl | rfl | rfl | rfl | rfl
   ·simp at ho
    subst ho
    clear hall hi
    have n0 := Lib.cell_of_heap HV.out.p 0; have n1 := Lib.cell_of_heap HV.out.p 1; simp at n0 n1
    refine wpOp_step rfl (fun K' hK' => ?_)
    have HK := Lib.hid hK'
    clear hK'
    go_simp
    exact HK.out _ _ ⟨by simp [HJ.out.sz], ⟨_, _, _, _, _, _, _, rfl, fun _ => rfl, Um HV.out.k1, Um HV.out.k2, Um HV.out.k3, Um HV.out.k4, Um HV.out.k5, HV.out.g, HV.out.p, fun h i => HV.out.t5 (Uz h) (Dz i), Um HV.out.t6, Um HV.out.n5, fun h => getD_up hun (HV.out.q6 (getD_dn (by decide) h))⟩⟩
   ·simp at ho
    subst ho
    clear hall hi
    refine wpOp_step rfl (fun K' hK' => ?_)
    have HK := Lib.hid hK'
    clear hK'
    go_simp
    exact HK.out _ _ ⟨by simp [HJ.out.sz], ⟨_, _, _, _, _, _, _, rfl, Um HV.out.k0, fun _ => rfl, Um HV.out.k2, Um HV.out.k3, Um HV.out.k4, Um HV.out.k5, HV.out.g, HV.out.p, fun h i => HV.out.t5 (Uz h) (Dz i), Um HV.out.t6, Um HV.out.n5, fun h => getD_up hun (HV.out.q6 (getD_dn (by decide) h))⟩⟩
   ·simp at ho
    subst ho
    have H1 := Lib.hid (hall { on := 1, ground := .data } (by simp) (by decide))
    clear hall hi
    have e0 := HV.out.k1 H1.out
    subst e0
    have hc := Lib.cell_of_heap HV.out.g.ba 5; simp [Lot.cells] at hc
    refine wpOp_step rfl (fun K' hK' => ?_)
    have HK := Lib.hid hK'
    clear hK'
    go_simp
    exact HK.out _ _ ⟨by simp [HJ.out.sz], ⟨_, _, _, _, _, _, _, rfl, Um HV.out.k0, Um HV.out.k1, fun _ => rfl, Um HV.out.k3, Um HV.out.k4, Um HV.out.k5, HV.out.g, HV.out.p, fun h i => HV.out.t5 (Uz h) (Dz i), Um HV.out.t6, Um HV.out.n5, fun h => getD_up hun (HV.out.q6 (getD_dn (by decide) h))⟩⟩
   ·simp at ho
    subst ho
    have H2 := Lib.hid (hall { on := 2, ground := .data } (by simp) (by decide))
    clear hall hi
    have e0 := HV.out.k2 H2.out
    subst e0
    refine wpOp_step rfl (fun K' hK' => ?_)
    have HK := Lib.hid hK'
    clear hK'
    go_simp
    refine (HOF.out _ HV.out.g.be).mono ?_
    rintro e wn ⟨rfl, bn⟩
    have hg := HV.out.g.below bn
    exact HK.out _ _ ⟨by simp [HJ.out.sz], ⟨_, _, _, _, _, _, _, rfl, Um HV.out.k0, Um HV.out.k1, Um HV.out.k2, fun _ => rfl, Um HV.out.k4, Um HV.out.k5, hg, (bn.block _ (Array.getElem?_eq_some_iff.1 HV.out.p).1).trans HV.out.p, fun h0 h1 => (bn.block _ (Array.getElem?_eq_some_iff.1 (HV.out.t5 (getD_dn (by decide) h0) (getD_df (by decide) h1))).1).trans (HV.out.t5 (getD_dn (by decide) h0) (getD_df (by decide) h1)), fun h0 => (bn.block _ (Array.getElem?_eq_some_iff.1 (HV.out.t6 (getD_dn (by decide) h0))).1).trans (HV.out.t6 (getD_dn (by decide) h0)), Um HV.out.n5, fun h => getD_up hun (HV.out.q6 (getD_dn (by decide) h))⟩⟩
   ·simp at ho
    subst ho
    have H0 := Lib.hid (hall { on := 0, ground := .data } (by simp) (by decide))
    have H3 := Lib.hid (hall { on := 3, ground := .data } (by simp) (by decide))
    clear hall hi
    have e0 := HV.out.k0 H0.out
    subst e0
    have e1 := HV.out.k3 H3.out
    subst e1
    refine wpOp_step rfl (fun K' hK' => ?_)
    have HK := Lib.hid hK'
    clear hK'
    go_simp
    refine (HSUB.out _ HV.out.g.be).mono ?_
    rintro e wn ⟨rfl, bn⟩
    have hg := HV.out.g.below bn
    exact HK.out _ _ ⟨by simp [HJ.out.sz], ⟨_, _, _, _, _, _, _, rfl, Um HV.out.k0, Um HV.out.k1, Um HV.out.k2, Um HV.out.k3, fun _ => rfl, Um HV.out.k5, hg, (bn.block _ (Array.getElem?_eq_some_iff.1 HV.out.p).1).trans HV.out.p, fun h0 h1 => (bn.block _ (Array.getElem?_eq_some_iff.1 (HV.out.t5 (getD_dn (by decide) h0) (getD_df (by decide) h1))).1).trans (HV.out.t5 (getD_dn (by decide) h0) (getD_df (by decide) h1)), fun h0 => (bn.block _ (Array.getElem?_eq_some_iff.1 (HV.out.t6 (getD_dn (by decide) h0))).1).trans (HV.out.t6 (getD_dn (by decide) h0)), Um HV.out.n5, fun h => getD_up hun (HV.out.q6 (getD_dn (by decide) h))⟩⟩
   ·simp at ho
    subst ho
    clear hall hi
    have ba : Below w'.heap.size w' (w'.alloc (.cells #[.string ⟨#[]⟩, .string ⟨#[]⟩] 42)) := (Below.refl _ _).alloc (Nat.le_refl _) _
    have hg := HV.out.g.below ba
    refine wpOp_step rfl (fun K' hK' => ?_)
    have HK := Lib.hid hK'
    clear hK'
    go_simp
    exact HK.out _ _ ⟨by simp [HJ.out.sz], ⟨w'.heap.size, _, _, _, _, _, _, rfl, Um HV.out.k0, Um HV.out.k1, Um HV.out.k2, Um HV.out.k3, Um HV.out.k4, fun _ => rfl, hg, (ba.block _ (Array.getElem?_eq_some_iff.1 HV.out.p).1).trans HV.out.p, fun _ _ => heap_alloc_new _ _, fun h => (not_on hoff (HV.out.q6 (getD_dn (by decide) h))).elim, fun _ => ⟨HV.out.g.bx.lt, HV.out.g.ba.lt, HV.out.g.bb.lt, (Array.getElem?_eq_some_iff.1 HV.out.p).1⟩, fun _ => getD_set_same hun⟩⟩
   ·simp at ho
    subst ho
    have H5 := Lib.hid (hall { on := 5, ground := .data } (by simp) (by decide))
    have H4 := Lib.hid (hall { on := 4, ground := .data } (by simp) (by decide))
    clear hall hi
    have e0 := HV.out.k5 H5.out
    subst e0
    have e1 := HV.out.k4 H4.out
    subst e1
    have hP := HV.out.t5 H5.out hoff
    have n0 := Lib.cell_of_heap hP 0; have n1 := Lib.cell_of_heap hP 1; have z0 := Lib.frozen_of_heap hP 0; have z1 := Lib.frozen_of_heap hP 1
    simp at n0 n1
    have HPP := Lib.hid hP
    clear hP
    have hn := HV.out.n5 H5.out
    have hwp : w.heap.size ≤ Bo := by have := HBX.out; omega
    have hg := HV.out.g.set2 (B := Bo) (by omega) (by omega) (by omega) hwp (.string (I Q.num)) (.string (dn Q))
    refine wpOp_step rfl (fun K' hK' => ?_)
    have HK := Lib.hid hK'
    clear hK'
    go_simp
    exact HK.out _ _ ⟨by simp [HJ.out.sz], ⟨_, _, _, _, _, _, _, rfl, Um HV.out.k0, Um HV.out.k1, Um HV.out.k2, Um HV.out.k3, Um HV.out.k4, Um HV.out.k5, hg, (xfar2 (by omega) _ _).trans HV.out.p, fun _ h => (not_on h (getD_set_same hun)).elim, fun _ => set2 HPP.out _ _, Um HV.out.n5, fun _ => getD_up hun H5.out⟩⟩
 case stLE =>
  intro L a w' hj i hi
  obtain ⟨hun, o, ho, hall⟩ := mem_ready.1 hi
  have hoff := getD_off hun
  have hlt := (Array.getElem?_eq_some_iff.1 ho).1
  simp at hlt
  obtain ⟨Bp, s11, s12, s52, s53, s54, s55, s56, s57, s58, s59, s60, s61, rfl, hv⟩ := hj.fr
  have HV := Lib.hid hv
  have HJ := Lib.hid hj
  clear hv hj
  rcases (show i = 0 ∨ i = 1 ∨ i = 2 ∨ i = 3 ∨ i = 4 ∨ i = 5 ∨ i = 6 ∨ i = 7 ∨ i = 8 ∨ i = 9 ∨ i = 10 ∨ i = 11 ∨ i = 12 from by omega) with rfl | rfl | rfl | rfl | rfl | rfl | rfl | rfl | rfl | rfl | rfl | rfl | rfl
  ·simp at ho
   subst ho
   clear hall hi
   refine wpOp_step rfl (fun K' hK' => ?_)
   have HK := Lib.hid hK'
   clear hK'
   go_simp
   exact HK.out _ _ ⟨by simp [HJ.out.sz], ⟨_, _, _, _, _, _, _, _, _, _, _, _, _, rfl, fun _ => rfl, Um HV.out.k1, Um HV.out.k2, Um HV.out.k3, Um HV.out.k4, Um HV.out.k5, Um HV.out.k6, Um HV.out.k7, Um HV.out.k8, Um HV.out.k9, Um HV.out.k10, Um HV.out.k12, HV.out.g, fun h i => HV.out.t10 (Uz h) (Dz i), Um HV.out.t11, Um HV.out.n10, fun h => getD_up hun (HV.out.q11 (getD_dn (by decide) h)), fun h => getD_up hun (HV.out.q6 (getD_dn (by decide) h)), fun h => getD_up hun (HV.out.q3 (getD_dn (by decide) h))⟩⟩
  ·simp at ho
   subst ho
   have H0 := Lib.hid (hall { on := 0, ground := .data } (by simp) (by decide))
   clear hall hi
   have e0 := HV.out.k0 H0.out
   subst e0
   have hc := Lib.cell_of_heap HV.out.g.bx 5; simp [Lot.cells] at hc
   refine wpOp_step rfl (fun K' hK' => ?_)
   have HK := Lib.hid hK'
   clear hK'
   go_simp
   exact HK.out _ _ ⟨by simp [HJ.out.sz], ⟨_, _, _, _, _, _, _, _, _, _, _, _, _, rfl, Um HV.out.k0, fun _ => rfl, Um HV.out.k2, Um HV.out.k3, Um HV.out.k4, Um HV.out.k5, Um HV.out.k6, Um HV.out.k7, Um HV.out.k8, Um HV.out.k9, Um HV.out.k10, Um HV.out.k12, HV.out.g, fun h i => HV.out.t10 (Uz h) (Dz i), Um HV.out.t11, Um HV.out.n10, fun h => getD_up hun (HV.out.q11 (getD_dn (by decide) h)), fun h => getD_up hun (HV.out.q6 (getD_dn (by decide) h)), fun h => getD_up hun (HV.out.q3 (getD_dn (by decide) h))⟩⟩
  ·simp at ho
   subst ho
   clear hall hi
   refine wpOp_step rfl (fun K' hK' => ?_)
   have HK := Lib.hid hK'
   clear hK'
   go_simp
   exact HK.out _ _ ⟨by simp [HJ.out.sz], ⟨_, _, _, _, _, _, _, _, _, _, _, _, _, rfl, Um HV.out.k0, Um HV.out.k1, fun _ => rfl, Um HV.out.k3, Um HV.out.k4, Um HV.out.k5, Um HV.out.k6, Um HV.out.k7, Um HV.out.k8, Um HV.out.k9, Um HV.out.k10, Um HV.out.k12, HV.out.g, fun h i => HV.out.t10 (Uz h) (Dz i), Um HV.out.t11, Um HV.out.n10, fun h => getD_up hun (HV.out.q11 (getD_dn (by decide) h)), fun h => getD_up hun (HV.out.q6 (getD_dn (by decide) h)), fun h => getD_up hun (HV.out.q3 (getD_dn (by decide) h))⟩⟩
  ·simp at ho
   subst ho
   have H1 := Lib.hid (hall { on := 1, ground := .data } (by simp) (by decide))
   have H2 := Lib.hid (hall { on := 2, ground := .data } (by simp) (by decide))
   clear hall hi
   have e0 := HV.out.k1 H1.out
   subst e0
   have e1 := HV.out.k2 H2.out
   subst e1
   refine wpOp_step rfl (fun K' hK' => ?_)
   have HK := Lib.hid hK'
   clear hK'
   go_simp
   refine (HMUL.out _ HV.out.g.be).mono ?_
   rintro e wn ⟨rfl, bn⟩
   have hg := HV.out.g.below bn
   exact HK.out _ _ ⟨by simp [HJ.out.sz], ⟨_, _, _, _, _, _, _, _, _, _, _, _, _, rfl, Um HV.out.k0, Um HV.out.k1, Um HV.out.k2, fun _ => rfl, Um HV.out.k4, Um HV.out.k5, Um HV.out.k6, Um HV.out.k7, Um HV.out.k8, Um HV.out.k9, Um HV.out.k10, Um HV.out.k12, hg, fun h0 h1 => (bn.block _ (Array.getElem?_eq_some_iff.1 (HV.out.t10 (getD_dn (by decide) h0) (getD_df (by decide) h1))).1).trans (HV.out.t10 (getD_dn (by decide) h0) (getD_df (by decide) h1)), fun h0 => (bn.block _ (Array.getElem?_eq_some_iff.1 (HV.out.t11 (getD_dn (by decide) h0))).1).trans (HV.out.t11 (getD_dn (by decide) h0)), Um HV.out.n10, fun h => getD_up hun (HV.out.q11 (getD_dn (by decide) h)), fun h => getD_up hun (HV.out.q6 (getD_dn (by decide) h)), fun _ => getD_set_same hun⟩⟩
  ·simp at ho
   subst ho
   clear hall hi
   refine wpOp_step rfl (fun K' hK' => ?_)
   have HK := Lib.hid hK'
   clear hK'
   go_simp
   exact HK.out _ _ ⟨by simp [HJ.out.sz], ⟨_, _, _, _, _, _, _, _, _, _, _, _, _, rfl, Um HV.out.k0, Um HV.out.k1, Um HV.out.k2, Um HV.out.k3, fun _ => rfl, Um HV.out.k5, Um HV.out.k6, Um HV.out.k7, Um HV.out.k8, Um HV.out.k9, Um HV.out.k10, Um HV.out.k12, HV.out.g, fun h i => HV.out.t10 (Uz h) (Dz i), Um HV.out.t11, Um HV.out.n10, fun h => getD_up hun (HV.out.q11 (getD_dn (by decide) h)), fun h => getD_up hun (HV.out.q6 (getD_dn (by decide) h)), fun h => getD_up hun (HV.out.q3 (getD_dn (by decide) h))⟩⟩
  ·simp at ho
   subst ho
   have H4 := Lib.hid (hall { on := 4, ground := .data } (by simp) (by decide))
   clear hall hi
   have e0 := HV.out.k4 H4.out
   subst e0
   have hc := Lib.cell_of_heap HV.out.g.bx 4; simp [Lot.cells] at hc
   refine wpOp_step rfl (fun K' hK' => ?_)
   have HK := Lib.hid hK'
   clear hK'
   go_simp
   exact HK.out _ _ ⟨by simp [HJ.out.sz], ⟨_, _, _, _, _, _, _, _, _, _, _, _, _, rfl, Um HV.out.k0, Um HV.out.k1, Um HV.out.k2, Um HV.out.k3, Um HV.out.k4, fun _ => rfl, Um HV.out.k6, Um HV.out.k7, Um HV.out.k8, Um HV.out.k9, Um HV.out.k10, Um HV.out.k12, HV.out.g, fun h i => HV.out.t10 (Uz h) (Dz i), Um HV.out.t11, Um HV.out.n10, fun h => getD_up hun (HV.out.q11 (getD_dn (by decide) h)), fun h => getD_up hun (HV.out.q6 (getD_dn (by decide) h)), fun h => getD_up hun (HV.out.q3 (getD_dn (by decide) h))⟩⟩
  ·simp at ho
   subst ho
   have H3 := Lib.hid (hall { on := 3, ground := .data } (by simp) (by decide))
   have H5 := Lib.hid (hall { on := 5, ground := .data } (by simp) (by decide))
   clear hall hi
   have e0 := HV.out.k3 H3.out
   subst e0
   have e1 := HV.out.k5 H5.out
   subst e1
   refine wpOp_step rfl (fun K' hK' => ?_)
   have HK := Lib.hid hK'
   clear hK'
   go_simp
   refine (HNEW.out _ HV.out.g.be).mono ?_
   rintro e wn ⟨rfl, bn⟩
   have hg := HV.out.g.below bn
   exact HK.out _ _ ⟨by simp [HJ.out.sz], ⟨_, _, _, _, _, _, _, _, _, _, _, _, _, rfl, Um HV.out.k0, Um HV.out.k1, Um HV.out.k2, Um HV.out.k3, Um HV.out.k4, Um HV.out.k5, fun _ => rfl, Um HV.out.k7, Um HV.out.k8, Um HV.out.k9, Um HV.out.k10, Um HV.out.k12, hg, fun h0 h1 => (bn.block _ (Array.getElem?_eq_some_iff.1 (HV.out.t10 (getD_dn (by decide) h0) (getD_df (by decide) h1))).1).trans (HV.out.t10 (getD_dn (by decide) h0) (getD_df (by decide) h1)), fun h0 => (bn.block _ (Array.getElem?_eq_some_iff.1 (HV.out.t11 (getD_dn (by decide) h0))).1).trans (HV.out.t11 (getD_dn (by decide) h0)), Um HV.out.n10, fun h => getD_up hun (HV.out.q11 (getD_dn (by decide) h)), fun _ => getD_set_same hun, fun _ => getD_up hun H3.out⟩⟩
  ·simp at ho
   subst ho
   have H6 := Lib.hid (hall { on := 6, ground := .data } (by simp) (by decide))
   clear hall hi
   have e0 := HV.out.k6 H6.out
   subst e0
   refine wpOp_step rfl (fun K' hK' => ?_)
   have HK := Lib.hid hK'
   clear hK'
   go_simp
   exact HK.out _ _ ⟨by simp [HJ.out.sz], ⟨_, _, _, _, _, _, _, _, _, _, _, _, _, rfl, Um HV.out.k0, Um HV.out.k1, Um HV.out.k2, Um HV.out.k3, Um HV.out.k4, Um HV.out.k5, Um HV.out.k6, fun _ => rfl, Um HV.out.k8, Um HV.out.k9, Um HV.out.k10, Um HV.out.k12, HV.out.g, fun h i => HV.out.t10 (Uz h) (Dz i), Um HV.out.t11, Um HV.out.n10, fun h => getD_up hun (HV.out.q11 (getD_dn (by decide) h)), fun h => getD_up hun (HV.out.q6 (getD_dn (by decide) h)), fun h => getD_up hun (HV.out.q3 (getD_dn (by decide) h))⟩⟩
  ·simp at ho
   subst ho
   have H7 := Lib.hid (hall { on := 7, ground := .data } (by simp) (by decide))
   clear hall hi
   have e0 := HV.out.k7 H7.out
   subst e0
   refine wpOp_step rfl (fun K' hK' => ?_)
   have HK := Lib.hid hK'
   clear hK'
   go_simp
   exact HK.out _ _ ⟨by simp [HJ.out.sz], ⟨_, _, _, _, _, _, _, _, _, _, _, _, _, rfl, Um HV.out.k0, Um HV.out.k1, Um HV.out.k2, Um HV.out.k3, Um HV.out.k4, Um HV.out.k5, Um HV.out.k6, Um HV.out.k7, fun _ => rfl, Um HV.out.k9, Um HV.out.k10, Um HV.out.k12, HV.out.g, fun h i => HV.out.t10 (Uz h) (Dz i), Um HV.out.t11, Um HV.out.n10, fun h => getD_up hun (HV.out.q11 (getD_dn (by decide) h)), fun h => getD_up hun (HV.out.q6 (getD_dn (by decide) h)), fun h => getD_up hun (HV.out.q3 (getD_dn (by decide) h))⟩⟩
  ·simp at ho
   subst ho
   have H7 := Lib.hid (hall { on := 7, ground := .data } (by simp) (by decide))
   clear hall hi
   have e0 := HV.out.k7 H7.out
   subst e0
   refine wpOp_step rfl (fun K' hK' => ?_)
   have HK := Lib.hid hK'
   clear hK'
   go_simp
   exact HK.out _ _ ⟨by simp [HJ.out.sz], ⟨_, _, _, _, _, _, _, _, _, _, _, _, _, rfl, Um HV.out.k0, Um HV.out.k1, Um HV.out.k2, Um HV.out.k3, Um HV.out.k4, Um HV.out.k5, Um HV.out.k6, Um HV.out.k7, Um HV.out.k8, fun _ => rfl, Um HV.out.k10, Um HV.out.k12, HV.out.g, fun h i => HV.out.t10 (Uz h) (Dz i), Um HV.out.t11, Um HV.out.n10, fun h => getD_up hun (HV.out.q11 (getD_dn (by decide) h)), fun h => getD_up hun (HV.out.q6 (getD_dn (by decide) h)), fun h => getD_up hun (HV.out.q3 (getD_dn (by decide) h))⟩⟩
  ·simp at ho
   subst ho
   clear hall hi
   have ba : Below w'.heap.size w' (w'.alloc (.cells #[.string ⟨#[]⟩, .string ⟨#[]⟩] 42)) := (Below.refl _ _).alloc (Nat.le_refl _) _
   have hg := HV.out.g.below ba
   refine wpOp_step rfl (fun K' hK' => ?_)
   have HK := Lib.hid hK'
   clear hK'
   go_simp
   exact HK.out _ _ ⟨by simp [HJ.out.sz], ⟨w'.heap.size, _, _, _, _, _, _, _, _, _, _, _, _, rfl, Um HV.out.k0, Um HV.out.k1, Um HV.out.k2, Um HV.out.k3, Um HV.out.k4, Um HV.out.k5, Um HV.out.k6, Um HV.out.k7, Um HV.out.k8, Um HV.out.k9, fun _ => rfl, Um HV.out.k12, hg, fun _ _ => heap_alloc_new _ _, fun h => (not_on hoff (HV.out.q11 (getD_dn (by decide) h))).elim, fun _ => ⟨HV.out.g.bx.lt, HV.out.g.ba.lt, HV.out.g.bb.lt⟩, fun _ => getD_set_same hun, fun h => getD_up hun (HV.out.q6 (getD_dn (by decide) h)), fun h => getD_up hun (HV.out.q3 (getD_dn (by decide) h))⟩⟩
  ·simp at ho
   subst ho
   have H10 := Lib.hid (hall { on := 10, ground := .data } (by simp) (by decide))
   have H8 := Lib.hid (hall { on := 8, ground := .data } (by simp) (by decide))
   have H6 := Lib.hid (hall { on := 6, ground := .chain } (by simp) (by decide))
   clear hall hi
   have e0 := HV.out.k10 H10.out
   subst e0
   have e1 := HV.out.k8 H8.out
   subst e1
   have hP := HV.out.t10 H10.out hoff
   have n0 := Lib.cell_of_heap hP 0; have n1 := Lib.cell_of_heap hP 1; have z0 := Lib.frozen_of_heap hP 0; have z1 := Lib.frozen_of_heap hP 1
   simp at n0 n1
   have HPP := Lib.hid hP
   clear hP
   have hn := HV.out.n10 H10.out
   have hwp : w.heap.size ≤ Bp := by have := HBX.out; omega
   have hg := HV.out.g.set2 (B := Bp) (by omega) (by omega) (by omega) hwp (.string (I P.num)) (.string (dn P))
   refine wpOp_step rfl (fun K' hK' => ?_)
   have HK := Lib.hid hK'
   clear hK'
   go_simp
   exact HK.out _ _ ⟨by simp [HJ.out.sz], ⟨_, _, _, _, _, _, _, _, _, _, _, _, _, rfl, Um HV.out.k0, Um HV.out.k1, Um HV.out.k2, Um HV.out.k3, Um HV.out.k4, Um HV.out.k5, Um HV.out.k6, Um HV.out.k7, Um HV.out.k8, Um HV.out.k9, Um HV.out.k10, Um HV.out.k12, hg, fun _ h => (not_on h (getD_set_same hun)).elim, fun _ => set2 HPP.out _ _, Um HV.out.n10, fun _ => getD_up hun H10.out, fun _ => getD_up hun H6.out, fun h => getD_up hun (HV.out.q3 (getD_dn (by decide) h))⟩⟩
  ·simp at ho
   subst ho
   have H9 := Lib.hid (hall { on := 9, ground := .data } (by simp) (by decide))
   clear hall hi
   have e0 := HV.out.k9 H9.out
   subst e0
   refine wpOp_step rfl (fun K' hK' => ?_)
   have HK := Lib.hid hK'
   clear hK'
   go_simp
   exact HK.out _ _ ⟨by simp [HJ.out.sz], ⟨_, _, _, _, _, _, _, _, _, _, _, _, _, rfl, Um HV.out.k0, Um HV.out.k1, Um HV.out.k2, Um HV.out.k3, Um HV.out.k4, Um HV.out.k5, Um HV.out.k6, Um HV.out.k7, Um HV.out.k8, Um HV.out.k9, Um HV.out.k10, fun _ => rfl, HV.out.g, fun h i => HV.out.t10 (Uz h) (Dz i), Um HV.out.t11, Um HV.out.n10, fun h => getD_up hun (HV.out.q11 (getD_dn (by decide) h)), fun h => getD_up hun (HV.out.q6 (getD_dn (by decide) h)), fun h => getD_up hun (HV.out.q3 (getD_dn (by decide) h))⟩⟩
end Go.Proofs.YthmfkgcoocikjaaGreatDoor
