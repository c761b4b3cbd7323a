/-
  tranchelaw19.LotTotals returns true. (Printed by gen_law13.py.)
-/
import Derived.Test.YthmfkgcoocikjaaGreatDoorT50
import Derived.Test.YthmfkgcoocikjaaGreatDoorT51
import Derived.Laws.BitsLemmas
set_option linter.unusedVariables false
set_option linter.unusedSimpArgs false
namespace Go.Proofs.YthmfkgcoocikjaaGreatDoor
open Go.RowKit Tr Go.Shelf
theorem Uz {L : Array Bool} {i j : Nat} (h : (L.setIfInBounds i true).getD j false = true) (e : i ≠ j := by decide) : L.getD j false = true := getD_dn e h
theorem Um {L : Array Bool} {i j : Nat} {X : Prop} (f : L.getD j false = true → X) (e : i ≠ j := by decide) : (L.setIfInBounds i true).getD j false = true → X := fun h => f (getD_dn e h)
theorem Dz {L : Array Bool} {i j : Nat} (h : (L.setIfInBounds i true).getD j false = false) (e : i ≠ j := by decide) : L.getD j false = false := getD_df e h
structure XT (w : World) (x : Lot) (Bx : Nat) (W : World) : Prop where
 be : Below w.heap.size w W
 bx : LotBox W Bx x
theorem XT.below {w : World} {x : Lot} {Bx : Nat} {W W' : World} (h : XT w x Bx W) (hb : Below W.heap.size W W') : XT w x Bx W' := ⟨h.be.trans (hb.mono h.be.size), h.bx.below hb⟩
def LotO (w : World) (Bx : Nat) (W : World) (la : List SLot) (v : Value) : Prop := ∃ base, W.ownsRow base 36 7 v la.length (flatL la) ∧ w.heap.size ≤ base ∧ base ≤ W.heap.size ∧ Bx < base
structure TDV (w : World) (x : Lot) (Bx : Nat) (ad : Addr) (N c k : Nat) (a2 : Addr) (la : List SLot) (Bn : Nat) (L : Array Bool) (W : World) (s11 s61 s62 s63 s64 s65 s66 s67 s68 : Value) : Prop where
 k0 : L.getD 0 false = true → s61 = .slice (some ad) N c
 k1 : L.getD 1 false = true → s62 = .int .i64 (k : Int)
 k2 : L.getD 2 false = true → s63 = .slice (some a2) (N - k) (c - k)
 k3 : L.getD 3 false = true → s64 = .slice (some ad) N c
 k4 : L.getD 4 false = true → s65 = .int .i64 (k : Int)
 k5 : L.getD 5 false = true → s66 = .slice (some ad) k c
 k6 : L.getD 6 false = true → s67 = .slice (some ⟨Bn, 0, none⟩) 2 2
 g : XT w x Bx W
 t6 : L.getD 6 false = true → W.heap[Bn]? = some (.cells #[.slice (some a2) (N - k) (c - k), .slice (some ad) k c] 22 (0, 0))
 r7 : L.getD 7 false = true → LotO w Bx W la s68
 r8 : L.getD 8 false = true → LotO w Bx W la s11
 q7 : L.getD 7 false = true → L.getD 6 false = true
 q8 : L.getD 8 false = true → L.getD 7 false = true
structure TDJ (w : World) (x : Lot) (Bx : Nat) (ad : Addr) (N c k : Nat) (a2 : Addr) (la : List SLot) (x1 x2 x3 x4 x5 x6 x9 x10 x12 x13 x14 x15 x16 x17 x18 x19 x20 x21 x22 x23 x24 x25 x26 x27 x28 x29 x30 x31 x32 x33 x34 x35 x36 x37 x38 x39 x40 x41 x42 x43 x44 x45 x46 x47 x48 x49 x50 x51 x52 x53 x54 x55 x56 x57 x58 x59 x60 x69 x70 x71 x72 x73 x74 x75 x76 x77 x78 x79 x80 x81 x82 x83 x84 x85 x86 x87 x88 x89 x90 x91 x92 x93 x94 x95 x96 x97 x98 x99 x100 x101 x102 x103 x104 x105 x106 x107 x108 x109 x110 x111 x112 x113 x114 x115 x116 x117 x118 x119 x120 x121 x122 x123 x124 x125 x126 x127 x128 x129 x130 x131 x132 x133 x134 x135 x136 x137 x138 x139 x140 x141 x142 x143 x144 x145 x146 x147 : Value) (L : Array Bool) (a : Act) (W : World) : Prop where
 sz : L.size = 9
 fr : ∃ Bn : Nat, ∃ s11 s61 s62 s63 s64 s65 s66 s67 s68 : Value, a = { tmps := #[.slice (some ad) N c, x1, x2, x3, x4, x5, x6, .int .i64 (k : Int), .pointer (some ⟨Bx, 0, none⟩), x9, x10, s11, x12, x13, x14, x15, x16, x17, x18, x19, x20, x21, x22, x23, x24, x25, x26, x27, x28, x29, x30, x31, x32, x33, x34, x35, x36, x37, x38, x39, x40, x41, x42, x43, x44, x45, x46, x47, x48, x49, x50, x51, x52, x53, x54, x55, x56, x57, x58, x59, x60, s61, s62, s63, s64, s65, s66, s67, s68, x69, x70, x71, x72, x73, x74, x75, x76, x77, x78, x79, x80, x81, x82, x83, x84, x85, x86, x87, x88, x89, x90, x91, x92, x93, x94, x95, x96, x97, x98, x99, x100, x101, x102, x103, x104, x105, x106, x107, x108, x109, x110, x111, x112, x113, x114, x115, x116, x117, x118, x119, x120, x121, x122, x123, x124, x125, x126, x127, x128, x129, x130, x131, x132, x133, x134, x135, x136, x137, x138, x139, x140, x141, x142, x143, x144, x145, x146, x147], defers := [] } ∧ TDV w x Bx ad N c k a2 la Bn L W s11 s61 s62 s63 s64 s65 s66 s67 s68
structure TEV (w : World) (x : Lot) (Bx : Nat) (ad : Addr) (N c k kn : Nat) (a3 : Addr) (la : List SLot) (Bn : Nat) (L : Array Bool) (W : World) (s14 s76 s77 s78 s79 s80 s81 s82 s83 s84 : Value) : Prop where
 k0 : L.getD 0 false = true → s76 = .slice (some ad) N c
 k1 : L.getD 1 false = true → s77 = .int .i64 (k : Int)
 k2 : L.getD 2 false = true → s78 = .slice (some ad) k c
 k3 : L.getD 3 false = true → s79 = .slice (some ad) N c
 k4 : L.getD 4 false = true → s80 = .int .i64 (k : Int)
 k5 : L.getD 5 false = true → s81 = .int .i64 (kn : Int)
 k6 : L.getD 6 false = true → s82 = .slice (some a3) (N - kn) (c - kn)
 k7 : L.getD 7 false = true → s83 = .slice (some ⟨Bn, 0, none⟩) 2 2
 g : XT w x Bx W
 t7 : L.getD 7 false = true → W.heap[Bn]? = some (.cells #[.slice (some ad) k c, .slice (some a3) (N - kn) (c - kn)] 22 (0, 0))
 r8 : L.getD 8 false = true → LotO w Bx W la s84
 r9 : L.getD 9 false = true → LotO w Bx W la s14
 q8 : L.getD 8 false = true → L.getD 7 false = true
 q9 : L.getD 9 false = true → L.getD 8 false = true
structure TEJ (w : World) (x : Lot) (Bx : Nat) (ad : Addr) (N c k kn : Nat) (a3 : Addr) (la : List SLot) (x1 x2 x3 x4 x5 x6 x9 x10 x11 x12 x13 x15 x16 x17 x18 x19 x20 x21 x22 x23 x24 x25 x26 x27 x28 x29 x30 x31 x32 x33 x34 x35 x36 x37 x38 x39 x40 x41 x42 x43 x44 x45 x46 x47 x48 x49 x50 x51 x52 x53 x54 x55 x56 x57 x58 x59 x60 x61 x62 x63 x64 x65 x66 x67 x68 x69 x70 x71 x72 x73 x74 x75 x85 x86 x87 x88 x89 x90 x91 x92 x93 x94 x95 x96 x97 x98 x99 x100 x101 x102 x103 x104 x105 x106 x107 x108 x109 x110 x111 x112 x113 x114 x115 x116 x117 x118 x119 x120 x121 x122 x123 x124 x125 x126 x127 x128 x129 x130 x131 x132 x133 x134 x135 x136 x137 x138 x139 x140 x141 x142 x143 x144 x145 x146 x147 : Value) (L : Array Bool) (a : Act) (W : World) : Prop where
 sz : L.size = 10
 fr : ∃ Bn : Nat, ∃ s14 s76 s77 s78 s79 s80 s81 s82 s83 s84 : Value, a = { tmps := #[.slice (some ad) N c, x1, x2, x3, x4, x5, x6, .int .i64 (k : Int), .pointer (some ⟨Bx, 0, none⟩), x9, x10, x11, x12, x13, s14, x15, x16, x17, x18, x19, x20, x21, x22, x23, x24, x25, x26, x27, x28, x29, x30, x31, x32, x33, x34, x35, x36, x37, x38, x39, x40, x41, x42, x43, x44, x45, x46, x47, x48, x49, x50, x51, x52, x53, x54, x55, x56, x57, x58, x59, x60, x61, x62, x63, x64, x65, x66, x67, x68, x69, x70, x71, x72, x73, x74, x75, s76, s77, s78, s79, s80, s81, s82, s83, s84, x85, x86, x87, x88, x89, x90, x91, x92, x93, x94, x95, x96, x97, x98, x99, x100, x101, x102, x103, x104, x105, x106, x107, x108, x109, x110, x111, x112, x113, x114, x115, x116, x117, x118, x119, x120, x121, x122, x123, x124, x125, x126, x127, x128, x129, x130, x131, x132, x133, x134, x135, x136, x137, x138, x139, x140, x141, x142, x143, x144, x145, x146, x147], defers := [] } ∧ TEV w x Bx ad N c k kn a3 la Bn L W s14 s76 s77 s78 s79 s80 s81 s82 s83 s84
structure TFV (w : World) (x LA LB : Lot) (Bx Ba Bb b8 : Nat) (A8 : Option Addr) (M c8 : Nat) (lb lc : List SLot) (Q C : Int) (Bn : Nat) (L : Array Bool) (W : World) (s20 s21 s126 s127 s128 s129 s130 s131 s132 s133 s134 s135 s136 : Value) : Prop where
 k0 : L.getD 0 false = true → s127 = .slice A8 M c8
 k1 : L.getD 1 false = true → s128 = .agg #[.string LA.id, .string LA.inst, .int .i64 LA.acq, .int .i64 LA.opn, .string LA.qty, .string LA.cost, .string LA.used]
 k2 : L.getD 2 false = true → s129 = .agg #[.string LB.id, .string LB.inst, .int .i64 LB.acq, .int .i64 LB.opn, .string LB.qty, .string LB.cost, .string LB.used]
 k3 : L.getD 3 false = true → s130 = .slice (some ⟨Bn, 0, none⟩) 2 2
 k5 : L.getD 5 false = true → s132 = .pointer (some ⟨Bx, 1, none⟩)
 k6 : L.getD 6 false = true → s133 = .string x.inst
 k7 : L.getD 7 false = true → s134 = .tuple #[.string (I Q), .string (I C)]
 k8 : L.getD 8 false = true → s126 = .tuple #[.string (I Q), .string (I C)]
 k9 : L.getD 9 false = true → s135 = .string (I Q)
 k10 : L.getD 10 false = true → s136 = .string (I C)
 k11 : L.getD 11 false = true → s20 = .string (I Q)
 k12 : L.getD 12 false = true → s21 = .string (I C)
 g : XU w x LA LB Bx Ba Bb W
 o : L.getD 4 false = false → W.ownsRow b8 36 7 (.slice A8 M c8) lb.length (flatL lb)
 t3 : L.getD 3 false = true → W.heap[Bn]? = some (.cells #[.string LA.id, .string LA.inst, .int .i64 LA.acq, .int .i64 LA.opn, .string LA.qty, .string LA.cost, .string LA.used, .string LB.id, .string LB.inst, .int .i64 LB.acq, .int .i64 LB.opn, .string LB.qty, .string LB.cost, .string LB.used] 36 (0, 0))
 n3 : L.getD 3 false = true → Bb < Bn
 r4 : L.getD 4 false = true → LotR W lc s131
 q4 : L.getD 4 false = true → L.getD 3 false = true
 q7 : L.getD 7 false = true → L.getD 4 false = true
structure TFJ (w : World) (x LA LB : Lot) (Bx Ba Bb b8 : Nat) (A8 : Option Addr) (M c8 : Nat) (lb lc : List SLot) (Q C : Int) (x0 x1 x2 x3 x4 x5 x6 x7 x9 x10 x11 x12 x13 x15 x16 x19 x22 x23 x24 x25 x26 x27 x28 x29 x30 x31 x32 x33 x34 x35 x36 x37 x38 x39 x40 x41 x42 x43 x44 x45 x46 x47 x48 x49 x50 x51 x52 x53 x54 x55 x56 x57 x58 x59 x60 x61 x62 x63 x64 x65 x66 x67 x68 x69 x70 x71 x72 x73 x74 x75 x76 x77 x78 x79 x80 x81 x82 x83 x84 x85 x86 x87 x88 x89 x90 x91 x92 x93 x94 x95 x96 x97 x98 x99 x100 x101 x102 x103 x104 x105 x106 x107 x108 x109 x110 x111 x112 x113 x114 x115 x116 x117 x118 x119 x120 x121 x122 x123 x124 x125 x137 x138 x139 x140 x141 x142 x143 x144 x145 x146 x147 : Value) (L : Array Bool) (a : Act) (W : World) : Prop where
 sz : L.size = 13
 fr : ∃ Bn : Nat, ∃ s20 s21 s126 s127 s128 s129 s130 s131 s132 s133 s134 s135 s136 : Value, a = { tmps := #[x0, x1, x2, x3, x4, x5, x6, x7, .pointer (some ⟨Bx, 0, none⟩), x9, x10, x11, x12, x13, .slice A8 M c8, x15, x16, .pointer (some ⟨Ba, 0, none⟩), .pointer (some ⟨Bb, 0, none⟩), x19, s20, s21, x22, x23, x24, x25, x26, x27, x28, x29, x30, x31, x32, x33, x34, x35, x36, x37, x38, x39, x40, x41, x42, x43, x44, x45, x46, x47, x48, x49, x50, x51, x52, x53, x54, x55, x56, x57, x58, x59, x60, x61, x62, x63, x64, x65, x66, x67, x68, x69, x70, x71, x72, x73, x74, x75, x76, x77, x78, x79, x80, x81, x82, x83, x84, x85, x86, x87, x88, x89, x90, x91, x92, x93, x94, x95, x96, x97, x98, x99, x100, x101, x102, x103, x104, x105, x106, x107, x108, x109, x110, x111, x112, x113, x114, x115, x116, x117, x118, x119, x120, x121, x122, x123, x124, x125, s126, s127, s128, s129, s130, s131, s132, s133, s134, s135, s136, x137, x138, x139, x140, x141, x142, x143, x144, x145, x146, x147], defers := [] } ∧ TFV w x LA LB Bx Ba Bb b8 A8 M c8 lb lc Q C Bn L W s20 s21 s126 s127 s128 s129 s130 s131 s132 s133 s134 s135 s136
set_option maxHeartbeats 16000000 in
set_option maxRecDepth 100000 in
theorem LotTotals_any (A : Option Addr) (ls : List Lot) (c : Nat) (hcap : ls.length ≤ c) (hlm : ls.length ≤ 9223372036854775807) (at' : Int) (ha0 : 0 ≤ at') (ha1 : at' ≤ 255) (q : ByteArray) (hqm : q.size ≤ 9223372036854775807) (w : World) (hR : RdL w A ls) (ht : Tabs w) :
 Calls Tryz.prog 6 #[.slice A ls.length c, .int .u8 at', .string q] w (TruePost19 w) := by
 have HT := Lib.hid ht
 have HR := Lib.hid hR
 clear ht hR
 go_enter Tryz.func6, Tryz.ntmps6
 go_wp2_with fail
 refine (rGreat19_len A ls c hlm w HR.out).mono ?_
 rintro e w1 ⟨g, rfl, hg, b1⟩
 have HB1 := Lib.hid b1
 have HV := Lib.hid hg
 clear b1 hg
 cases g
 case true =>
  go_wp2_with fail
  refine (awake19_any _ (HT.out.below HB1.out)).mono ?_
  rintro e wz ⟨rfl, bz⟩
  have HZ := Lib.hid (HB1.out.trans (bz.mono HB1.out.size))
  clear bz
  go_wp2_with fail
  go_ret
  exact ⟨rfl, HZ.out⟩
 obtain ⟨v1, v2, v3⟩ := HV.out rfl
 clear HV
 rcases Nat.eq_zero_or_pos ls.length with hz | hz
 ·have t0 : decide ((ls.length : Int) = 0) = true := decide_eq_true (by omega)
  have t0' : ((ls.length : Int) == 0) = true := by rw [beq_iff_eq]; omega
  have t0'' : (ls.length == 0) = true := by rw [beq_iff_eq]; omega
  have hnil : ls = [] := List.eq_nil_of_length_eq_zero hz
  subst hnil
  clear v1 v2 v3 hz
  go_wp2_with fail
  refine (awake19_any _ (HT.out.below HB1.out)).mono ?_
  rintro e wz ⟨rfl, bz⟩
  have HZ := Lib.hid (HB1.out.trans (bz.mono HB1.out.size))
  clear bz
  go_wp2_with fail
  go_ret
  exact ⟨rfl, HZ.out⟩
 have t0 : ((ls.length : Int) == 0) = false := beq_eq_false_iff_ne.2 (by omega)
 have t0' : (ls.length == 0) = false := beq_eq_false_iff_ne.2 (by omega)
 rcases Nat.lt_or_ge 12 ls.length with h12 | h12
 ·have t1 : decide ((12 : Int) < (ls.length : Int)) = true := decide_eq_true (by omega)
  clear v1 v2 v3
  go_wp2_with fail
  refine (awake19_any _ (HT.out.below HB1.out)).mono ?_
  rintro e wz ⟨rfl, bz⟩
  have HZ := Lib.hid (HB1.out.trans (bz.mono HB1.out.size))
  clear bz
  go_wp2_with fail
  go_ret
  exact ⟨rfl, HZ.out⟩
 have t1 : decide ((12 : Int) < (ls.length : Int)) = false := decide_eq_false (by omega)
 go_wp2_with fail
 refine (rCheckAll19_ex A ls c hcap hlm v3 w1 (HR.out.below HB1.out)).mono ?_
 rintro e w2 ⟨rfl, b2⟩
 have HB2 := Lib.hid (HB1.out.trans (b2.mono HB1.out.size))
 clear b2 HB1
 by_cases hall : lall ls = 0
 case neg =>
  have t2 : (lall ls == 0) = false := beq_eq_false_iff_ne.2 hall
  have t2' : (lall ls != 0) = true := by rw [bne, t2]; rfl
  clear hall v1 v2 v3
  go_wp2_with fail
  refine (awake19_any _ (HT.out.below HB2.out)).mono ?_
  rintro e wz ⟨rfl, bz⟩
  have HZ := Lib.hid (HB2.out.trans (bz.mono HB2.out.size))
  clear bz
  go_wp2_with fail
  go_ret
  exact ⟨rfl, HZ.out⟩
 rw [hall]
 clear hall
 rcases Nat.lt_or_ge 13 q.size with h13 | h13
 ·have t3 : decide ((13 : Int) < (q.size : Int)) = true := decide_eq_true (by omega)
  clear v1 v2 v3
  go_wp2_with fail
  refine (awake19_any _ (HT.out.below HB2.out)).mono ?_
  rintro e wz ⟨rfl, bz⟩
  have HZ := Lib.hid (HB2.out.trans (bz.mono HB2.out.size))
  clear bz
  go_wp2_with fail
  go_ret
  exact ⟨rfl, HZ.out⟩
 have t3 : decide ((13 : Int) < (q.size : Int)) = false := decide_eq_false (by omega)
 obtain ⟨sls, rfl⟩ := exists_slots ls (fun l hl => (v3 l hl).sized)
 have HTY : Hid (∀ x ∈ sls, x.1.tiny) := fun x hx => v3 x.1 (List.mem_map.2 ⟨x, hx, rfl⟩)
 simp only [List.length_map] at hcap hlm hz t0 t0' h12 t1 ⊢
 obtain ⟨N, hN⟩ : ∃ N, sls.length = N := ⟨_, rfl⟩
 rw [hN] at hcap hlm hz t0 t0' h12 t1 ⊢
 have HN := Lib.hid hN
 have HRB := Lib.hid HR.out.rdb
 clear v1 v2 v3 hN HR
 obtain ⟨k, hk, hkN⟩ : ∃ k : Nat, Int.tmod at' (N : Int) = (k : Int) ∧ k < N := by
  have h1 := Int.tmod_lt_of_pos at' (b := (N : Int)) (by omega)
  have h2 := Int.tmod_nonneg (N : Int) ha0
  exact ⟨(Int.tmod at' N).toNat, by omega, by omega⟩
 obtain ⟨x, hx⟩ : ∃ x, sls[k]? = some x := ⟨_, List.getElem?_eq_getElem (by rw [HN.out]; exact hkN)⟩
 obtain ⟨ad, rfl, had, hcell⟩ := HRB.out (by intro e; rw [e] at hx; cases hx)
 obtain ⟨y0, y1, y2, y3, y4, y5, y6⟩ := (hcell k x hx).below HB2.out (by rw [add_block]; exact had)
 have hkb : (k : Int) < (N : Int) := by omega
 have HX := Lib.hid hx
 obtain ⟨W3, hW3⟩ : ∃ W3, w2.alloc (.cells x.1.cells 36) = W3 := ⟨_, rfl⟩
 have k3 : LotBox W3 w2.heap.size x.1 := by rw [← hW3]; exact heap_alloc_new w2 _
 have b3 : Below w2.heap.size w2 W3 := by rw [← hW3]; exact (Below.refl _ w2).alloc (Nat.le_refl _) _
 have HG3 : Hid (XT w x.1 w2.heap.size W3) := ⟨HB2.out.trans (b3.mono HB2.out.size), k3⟩
 have HBX : Hid (w.heap.size ≤ w2.heap.size) := HB2.out.size
 have x1 := Lib.cell_of_heap k3 1
 simp [Lot.cells] at x1
 have hNz : N ≤ 12 := h12
 have HTOT := Lib.hid (fun W (hW : XT w x.1 w2.heap.size W) => lTotal_any w.heap.size (some ad) sls c x.1.inst W (by rw [HN.out]; omega) (HRB.out.below hW.be) hW.be.size (HT.out.below hW.be))
 rw [HN.out] at HTOT
 have HTOT2 := Lib.hid (fun A6 c6 (W : World) (h1 : RdB W.heap.size W A6 (sls.drop k ++ sls.take k)) (hW : XT w x.1 w2.heap.size W) => lTotal_any W.heap.size A6 (sls.drop k ++ sls.take k) c6 x.1.inst W (by simp; have := HN.out; omega) h1 (Nat.le_refl _) (HT.out.below hW.be))
 rw [sum_turn, sum_turn] at HTOT2
 obtain ⟨kn, hkn⟩ : ∃ kn, k + 1 = kn := ⟨_, rfl⟩
 have hs := sum_rest qtyOf hx
 have hf := sum_rest costOf hx
 rw [hkn] at hs hf
 have HS := Lib.hid hs
 have HF := Lib.hid hf
 clear hs hf
 have hdl : (sls.drop k).length = N - k := by rw [List.length_drop, HN.out]
 have htl : (sls.take k).length = k := by rw [List.length_take, HN.out]; omega
 have hdl2 : (sls.drop kn).length = N - kn := by rw [List.length_drop, HN.out]
 obtain ⟨a2, ha2⟩ : ∃ a2 : Addr, a2 = (if c = k then ad else ad.add (k * 7)) := ⟨_, rfl⟩
 obtain ⟨a3, ha3⟩ : ∃ a3 : Addr, a3 = (if c = kn then ad else ad.add (kn * 7)) := ⟨_, rfl⟩
 have hs1 := fun W => lslice_hi W ad N c k (by omega)
 rw [← ha2] at hs1
 have HSH := Lib.hid hs1
 have hs2 := fun W => lslice_hi W ad N c kn (by omega)
 rw [← ha3] at hs2
 have HSH2 := Lib.hid hs2
 have HSO := Lib.hid (fun W => lslice_lo W ad N c k (by omega))
 have HCAT : Hid (∀ W B, W.heap[B]? = some (.cells #[.slice (some a2) (N - k) (c - k), .slice (some ad) k c] 22 (0, 0)) → XT w x.1 w2.heap.size W → Calls Tryz.prog 35 #[.slice (some ⟨B, 0, none⟩) 2 2] W fun e w' => ∃ v, e = .returned v ∧ w'.ownsRow W.heap.size 36 7 v (sls.drop k ++ sls.take k).length (flatL (sls.drop k ++ sls.take k)) ∧ Below W.heap.size W w') := fun W B hB hW => by
  have hd := (HRB.out.below hW.be).drop (c := c) k (by rw [HN.out]; omega) (by rw [HN.out]; exact hcap)
  rw [← ha2] at hd
  exact catLots_own B w.heap.size a2 (sls.drop k) (c - k) ad (sls.take k) c 2 W (by rw [hdl, htl]; exact hB) hd ((HRB.out.below hW.be).take k) hW.be.size (by omega) (by omega)
 have HCAT2 : Hid (∀ W B, W.heap[B]? = some (.cells #[.slice (some ad) k c, .slice (some a3) (N - kn) (c - kn)] 22 (0, 0)) → XT w x.1 w2.heap.size W → Calls Tryz.prog 35 #[.slice (some ⟨B, 0, none⟩) 2 2] W fun e w' => ∃ v, e = .returned v ∧ w'.ownsRow W.heap.size 36 7 v (sls.take k ++ sls.drop kn).length (flatL (sls.take k ++ sls.drop kn)) ∧ Below W.heap.size W w') := fun W B hB hW => by
  have hd := (HRB.out.below hW.be).drop (c := c) kn (by rw [HN.out]; omega) (by rw [HN.out]; exact hcap)
  rw [← ha3] at hd
  exact catLots_own B w.heap.size ad (sls.take k) c a3 (sls.drop kn) (c - kn) 2 W (by rw [hdl2, htl]; exact hB) ((HRB.out.below hW.be).take k) hd hW.be.size (by omega) (by omega)
 have HWR : Hid (IntKind.i64.wrap ((k : Int) + 1) = (kn : Int)) := by rw [Hid, IntKind.wrap_i64]; omega
 have hla0 : (sls.drop k ++ sls.take k).length = N := by rw [List.length_append, hdl, htl]; omega
 have hlb0 : (sls.take k ++ sls.drop kn).length = N - 1 := by rw [List.length_append, hdl2, htl]; omega
 have HTOT3 := Lib.hid (fun A8 c8 (W : World) (h1 : RdB W.heap.size W A8 (sls.take k ++ sls.drop kn)) (hW : XT w x.1 w2.heap.size W) => lTotal_any W.heap.size A8 (sls.take k ++ sls.drop kn) c8 x.1.inst W (by rw [hlb0]; omega) h1 (Nat.le_refl _) (HT.out.below hW.be))
 generalize sls.drop k ++ sls.take k = la at HTOT2 HCAT hla0
 generalize sls.take k ++ sls.drop kn = lb at HCAT2 HS HF hlb0 HTOT3
 simp only [hla0] at HTOT2
 simp only [hlb0] at HTOT3
 obtain ⟨S, hSS⟩ : ∃ S, sumBy qtyOf (ownL lb x.1.inst) = S := ⟨_, rfl⟩
 obtain ⟨G, hGG⟩ : ∃ G, sumBy costOf (ownL lb x.1.inst) = G := ⟨_, rfl⟩
 obtain ⟨KK, hKK⟩ : ∃ KK, KK = 1000 := ⟨_, rfl⟩
 have hol : (ownL lb x.1.inst).length ≤ 12 := Nat.le_trans (List.length_filter_le _ _) (by rw [hlb0]; omega)
 have zS := sumBy_size (qty_lt hKK) (ownL lb x.1.inst) (by omega)
 have zG := sumBy_size (cost_lt hKK) (ownL lb x.1.inst) (by omega)
 rw [hSS] at HS zS
 rw [hGG] at HF zG
 rw [hSS, hGG] at HTOT3
 have HSG := Lib.hid (And.intro hSS hGG)
 have hxq : x.1.qty.size ≤ 1000 := x.2.2.2.1
 have hxc : x.1.cost.size ≤ 1000 := x.2.2.2.2.1
 have HADQ : Hid (∀ W, XT w x.1 w2.heap.size W → Calls Tryz.prog 30 #[.string (I S), .string x.1.qty] W fun e wn => e = .returned (.string (I (sumBy qtyOf (ownL sls x.1.inst)))) ∧ Below W.heap.size W wn) := fun W hW => by
  have := Add_any (I S) x.1.qty W (by omega) (by omega) (HT.out.below hW.be)
  rw [vl_I, show S + vl x.1.qty = sumBy qtyOf (ownL sls x.1.inst) from HS.out] at this
  exact this
 have HADC : Hid (∀ W, XT w x.1 w2.heap.size W → Calls Tryz.prog 30 #[.string (I G), .string x.1.cost] W fun e wn => e = .returned (.string (I (sumBy costOf (ownL sls x.1.inst)))) ∧ Below W.heap.size W wn) := fun W hW => by
  have := Add_any (I G) x.1.cost W (by omega) (by omega) (HT.out.below hW.be)
  rw [vl_I, show G + vl x.1.cost = sumBy costOf (ownL sls x.1.inst) from HF.out] at this
  exact this
 clear hSS hGG hol zS zG hKK hxq hxc
 have HLA := Lib.hid hla0
 have HLB := Lib.hid hlb0
 clear hla0 hlb0
 generalize sumBy qtyOf (ownL sls x.1.inst) = Q at *
 generalize sumBy costOf (ownL sls x.1.inst) = C at *
 clear k3 b3 hcell hx ha2 ha3 hs1 hs2 hdl htl hdl2 HB2
 unfold Lot.cells at hW3
 go_wp2_with fail
 generalize hBx : w2.heap.size = Bx at *
 refine (HTOT.out _ HG3.out).mono ?_
 rintro e w5 ⟨rfl, b5⟩
 have HG5 := Lib.hid (HG3.out.below b5)
 clear b5 HG3 HTOT x1 y0 y1 y2 y3 y4 y5 y6 hW3 hBx
 go_upto_region 6 with fail
 have hg5 : XT w x.1 Bx w5.drew := HG5.out.below (Below.refl _ _).drew
 clear HG5
 have mixed : Tryz.prog.follows .mixedOrders = true := by kernel_rfl
 refine wp_region_any mixed (wpAny_inv (TDJ w x.1 Bx ad N c k a2 la _ _ _ _ _ _ _ _ _ _ _ _ _ _ _ _ _ _ _ _ _ _ _ _ _ _ _ _ _ _ _ _ _ _ _ _ _ _ _ _ _ _ _ _ _ _ _ _ _ _ _ _ _ _ _ _ _ _ _ _ _ _ _ _ _ _ _ _ _ _ _ _ _ _ _ _ _ _ _ _ _ _ _ _ _ _ _ _ _ _ _ _ _ _ _ _ _ _ _ _ _ _ _ _ _ _ _ _ _ _ _ _ _ _ _ _ _ _ _ _ _ _ _ _ _ _ _ _ _ _ _ _ _ _ _ _) ?stTD ?dnTD _ _ _ _ ⟨by simp, ⟨0, _, _, _, _, _, _, _, _, _, rfl, fun h => by simp at h, fun h => by simp at h, fun h => by simp at h, fun h => by simp at h, fun h => by simp at h, fun h => by simp at h, fun h => by simp at h, hg5, fun h => by simp at h, fun h => by simp at h, fun h => by simp at h, fun h => by simp at h, fun h => by simp at h⟩⟩ (by decide))
 case dnTD =>
  intro L a w' hj hr
  have all : ∀ i, i < 9 → L.getD i false = true := by
   intro i
   induction i using Nat.strongRecOn with
   | ind i ih =>
     intro hi
     refine (off_or_on L i).resolve_left fun h => ?_
     refine List.eq_nil_iff_forall_not_mem.1 hr i (ready_of (by rw [hj.sz]; exact hi) h (Array.getElem?_eq_getElem (by simpa using hi)) (fun e he hbd => ih e.on ?_ ?_))
     ·rcases (show i = 0 ∨ i = 1 ∨ i = 2 ∨ i = 3 ∨ i = 4 ∨ i = 5 ∨ i = 6 ∨ i = 7 ∨ i = 8 from by omega) with rfl | rfl | rfl | rfl | rfl | rfl | rfl | rfl | rfl
      ·simp at he
      ·simp at he
      ·simp at he
       rcases he with rfl | rfl
       all_goals first | decide | (exact absurd hbd (by decide))
      ·simp at he
      ·simp at he
      ·simp at he
       rcases he with rfl | rfl
       all_goals first | decide | (exact absurd hbd (by decide))
      ·simp at he
       rcases he with rfl | rfl
       all_goals first | decide | (exact absurd hbd (by decide))
      ·simp at he
       subst he
       first | decide | (exact absurd hbd (by decide))
      ·simp at he
       rcases he with rfl | rfl | rfl | rfl | rfl | rfl | rfl | rfl | rfl | rfl
       all_goals first | decide | (exact absurd hbd (by decide))
     ·rcases (show i = 0 ∨ i = 1 ∨ i = 2 ∨ i = 3 ∨ i = 4 ∨ i = 5 ∨ i = 6 ∨ i = 7 ∨ i = 8 from by omega) with rfl | rfl | rfl | rfl | rfl | rfl | rfl | rfl | rfl
      ·simp at he
      ·simp at he
      ·simp at he
       rcases he with rfl | rfl
       all_goals first | decide | (exact absurd hbd (by decide))
      ·simp at he
      ·simp at he
      ·simp at he
       rcases he with rfl | rfl
       all_goals first | decide | (exact absurd hbd (by decide))
      ·simp at he
       rcases he with rfl | rfl
       all_goals first | decide | (exact absurd hbd (by decide))
      ·simp at he
       subst he
       first | decide | (exact absurd hbd (by decide))
      ·simp at he
       rcases he with rfl | rfl | rfl | rfl | rfl | rfl | rfl | rfl | rfl | rfl
       all_goals first | decide | (exact absurd hbd (by decide))
  obtain ⟨Bn, s11, s61, s62, s63, s64, s65, s66, s67, s68, rfl, hv⟩ := hj.fr
  have HG6 := Lib.hid (And.intro hv.g (hv.r8 (all 8 (by omega))))
  clear all hv hj hr
  obtain ⟨hg6, b6, ho6, hb60, hb61, hb62⟩ := HG6.out
  clear HG6
  obtain ⟨A6, c6', e6, _, _, hr6⟩ := RdB.of_own ho6
  rw [HLA.out] at e6
  subst e6
  dsimp only
  have HG6 := Lib.hid hg6
  have HR6 := Lib.hid hr6
  clear hg6 hr6 ho6 hb60 hb61 hb62
  have kx := HG6.out.bx
  have x1 := Lib.cell_of_heap kx 1
  simp [Lot.cells] at x1
  clear kx
  go_wp2_with fail
  refine (HTOT2.out A6 c6' w' HR6.out HG6.out).mono ?_
  rintro e w7 ⟨rfl, b7⟩
  have HG7 := Lib.hid (HG6.out.below b7)
  clear b7 HG6 HR6 HTOT2 x1
  go_upto_region 8 with fail
  have hg7 : XT w x.1 Bx w7.drew := HG7.out.below (Below.refl _ _).drew
  clear HG7
  have mixed : Tryz.prog.follows .mixedOrders = true := by kernel_rfl
  refine wp_region_any mixed (wpAny_inv (TEJ w x.1 Bx ad N c k kn a3 lb _ _ _ _ _ _ _ _ _ _ _ _ _ _ _ _ _ _ _ _ _ _ _ _ _ _ _ _ _ _ _ _ _ _ _ _ _ _ _ _ _ _ _ _ _ _ _ _ _ _ _ _ _ _ _ _ _ _ _ _ _ _ _ _ _ _ _ _ _ _ _ _ _ _ _ _ _ _ _ _ _ _ _ _ _ _ _ _ _ _ _ _ _ _ _ _ _ _ _ _ _ _ _ _ _ _ _ _ _ _ _ _ _ _ _ _ _ _ _ _ _ _ _ _ _ _ _ _ _ _ _ _ _ _ _) ?stTE ?dnTE _ _ _ _ ⟨by simp, ⟨0, _, _, _, _, _, _, _, _, _, _, rfl, fun h => by simp at h, fun h => by simp at h, fun h => by simp at h, fun h => by simp at h, fun h => by simp at h, fun h => by simp at h, fun h => by simp at h, fun h => by simp at h, hg7, fun h => by simp at h, fun h => by simp at h, fun h => by simp at h, fun h => by simp at h, fun h => by simp at h⟩⟩ (by decide))
  case dnTE =>
   intro L a w' hj hr
   have all : ∀ i, i < 10 → L.getD i false = true := by
    intro i
    induction i using Nat.strongRecOn with
    | ind i ih =>
      intro hi
      refine (off_or_on L i).resolve_left fun h => ?_
      refine List.eq_nil_iff_forall_not_mem.1 hr i (ready_of (by rw [hj.sz]; exact hi) h (Array.getElem?_eq_getElem (by simpa using hi)) (fun e he hbd => ih e.on ?_ ?_))
      ·rcases (show i = 0 ∨ i = 1 ∨ i = 2 ∨ i = 3 ∨ i = 4 ∨ i = 5 ∨ i = 6 ∨ i = 7 ∨ i = 8 ∨ i = 9 from by omega) with rfl | rfl | rfl | rfl | rfl | rfl | rfl | rfl | rfl | rfl
       ·simp at he
       ·simp at he
       ·simp at he
        rcases he with rfl | rfl
        all_goals first | decide | (exact absurd hbd (by decide))
       ·simp at he
       ·simp at he
       ·simp at he
        subst he
        first | decide | (exact absurd hbd (by decide))
       ·simp at he
        rcases he with rfl | rfl
        all_goals first | decide | (exact absurd hbd (by decide))
       ·simp at he
        rcases he with rfl | rfl
        all_goals first | decide | (exact absurd hbd (by decide))
       ·simp at he
        subst he
        first | decide | (exact absurd hbd (by decide))
       ·simp at he
        rcases he with rfl | rfl | rfl | rfl | rfl | rfl | rfl | rfl | rfl | rfl | rfl
        all_goals first | decide | (exact absurd hbd (by decide))
      ·rcases (show i = 0 ∨ i = 1 ∨ i = 2 ∨ i = 3 ∨ i = 4 ∨ i = 5 ∨ i = 6 ∨ i = 7 ∨ i = 8 ∨ i = 9 from by omega) with rfl | rfl | rfl | rfl | rfl | rfl | rfl | rfl | rfl | rfl
       ·simp at he
       ·simp at he
       ·simp at he
        rcases he with rfl | rfl
        all_goals first | decide | (exact absurd hbd (by decide))
       ·simp at he
       ·simp at he
       ·simp at he
        subst he
        first | decide | (exact absurd hbd (by decide))
       ·simp at he
        rcases he with rfl | rfl
        all_goals first | decide | (exact absurd hbd (by decide))
       ·simp at he
        rcases he with rfl | rfl
        all_goals first | decide | (exact absurd hbd (by decide))
       ·simp at he
        subst he
        first | decide | (exact absurd hbd (by decide))
       ·simp at he
        rcases he with rfl | rfl | rfl | rfl | rfl | rfl | rfl | rfl | rfl | rfl | rfl
        all_goals first | decide | (exact absurd hbd (by decide))
   obtain ⟨Bn, s14, s76, s77, s78, s79, s80, s81, s82, s83, s84, rfl, hv⟩ := hj.fr
   have HG8 := Lib.hid (And.intro hv.g (hv.r9 (all 9 (by omega))))
   clear all hv hj hr
   obtain ⟨hg8, b8, ho8, hb80, hb81, hb82⟩ := HG8.out
   clear HG8
   dsimp only
   have HG8 := Lib.hid hg8
   have HO8 := Lib.hid ho8
   have HB80 := Lib.hid (And.intro hb80 hb82)
   have HL := Lib.hid hb81
   clear hg8 ho8 hb80 hb81 hb82
   obtain ⟨A8, c8, e8, hc8, ha8, hr8⟩ := RdB.of_own HO8.out
   rw [HLB.out] at e8
   subst e8
   have HR8 := Lib.hid hr8
   clear hr8 hc8 ha8
   have kx := HG8.out.bx
   have x1 := Lib.cell_of_heap kx 1
   simp [Lot.cells] at x1
   clear kx
   go_wp2_with fail
   refine (HTOT3.out A8 c8 w' HR8.out HG8.out).mono ?_
   rintro e w9 ⟨rfl, b9⟩
   have HG9 := Lib.hid (HG8.out.below b9)
   replace HL := Lib.hid (Nat.le_trans HL.out b9.size)
   have HO9 := Lib.hid (own_below HO8.out b9)
   clear b9 HR8 HTOT3 x1 HG8 HO8
   have kx := HG9.out.bx
   have x4 := Lib.cell_of_heap kx 4
   simp [Lot.cells] at x4
   clear kx
   go_wp2_with fail
   refine (HADQ.out _ HG9.out).mono ?_
   rintro e w10 ⟨rfl, b10⟩
   have HG10 := Lib.hid (HG9.out.below b10)
   replace HL := Lib.hid (Nat.le_trans HL.out b10.size)
   have HO10 := Lib.hid (own_below HO9.out b10)
   clear b10 HADQ x4 HG9 HO9
   have kx := HG10.out.bx
   have x5 := Lib.cell_of_heap kx 5
   simp [Lot.cells] at x5
   clear kx
   go_wp2_with fail
   refine (HADC.out _ HG10.out).mono ?_
   rintro e w11 ⟨rfl, b11⟩
   have HG11 := Lib.hid (HG10.out.below b11)
   replace HL := Lib.hid (Nat.le_trans HL.out b11.size)
   have HO11 := Lib.hid (own_below HO10.out b11)
   clear b11 HADC x5 HG10 HO10
   have kx := HG11.out.bx
   have x0 := Lib.cell_of_heap kx 0
   have x1 := Lib.cell_of_heap kx 1
   have x2 := Lib.cell_of_heap kx 2
   have x3 := Lib.cell_of_heap kx 3
   have x4 := Lib.cell_of_heap kx 4
   have x5 := Lib.cell_of_heap kx 5
   have x6 := Lib.cell_of_heap kx 6
   simp [Lot.cells] at x0 x1 x2 x3 x4 x5 x6
   clear kx
   go_wp2_with fail
   rcases cut_cases x.1 q (HTY.out x (List.mem_of_getElem? HX.out)) h13 with ⟨code, hc0, hcut⟩ | ⟨LA, LB, hA, hB, iA, iB, sq, sc, hcut⟩
   ·have tc : (code == 0) = false := beq_eq_false_iff_ne.2 hc0
    have tc' : (code != 0) = true := by rw [bne, tc]; rfl
    have HCU := Lib.hid (hcut w11 (HT.out.below HG11.out.be))
    clear hcut hc0
    dsimp only [zeroLot, Lot.enc, Lot.cells] at HCU
    refine HCU.out.mono ?_
    rintro e w12 ⟨rfl, b12⟩
    have HG12 := Lib.hid (HG11.out.below b12)
    clear b12 HCU x0 x1 x2 x3 x4 x5 x6
    go_wp2_with fail
    have hbz : Below w.heap.size w ((w12.alloc (.cells #[.string ⟨#[]⟩, .string ⟨#[]⟩, .int .i64 0, .int .i64 0, .string ⟨#[]⟩, .string ⟨#[]⟩, .string ⟨#[]⟩] 36)).alloc (.cells #[.string ⟨#[]⟩, .string ⟨#[]⟩, .int .i64 0, .int .i64 0, .string ⟨#[]⟩, .string ⟨#[]⟩, .string ⟨#[]⟩] 36)) := (HG12.out.be.alloc HG12.out.be.size _).alloc (by have := HG12.out.be.size; simp; omega) _
    refine (awake19_any _ (HT.out.below hbz)).mono ?_
    rintro e wz ⟨rfl, bz⟩
    have HZ := Lib.hid (hbz.trans (bz.mono hbz.size))
    clear bz hbz
    go_wp2_with fail
    go_ret
    exact ⟨rfl, HZ.out⟩
   have HCU := Lib.hid (hcut w11 (HT.out.below HG11.out.be))
   clear hcut
   dsimp only [Lot.enc, Lot.cells] at HCU
   refine HCU.out.mono ?_
   rintro e w12 ⟨rfl, b12⟩
   have HG12 := Lib.hid (HG11.out.below b12)
   have HO12 := Lib.hid (own_below HO11.out b12)
   replace HL := Lib.hid (Nat.le_trans HL.out b12.size)
   clear b12 HCU HG11 HO11 x0 x1 x2 x3 x4 x5 x6
   have HB8 : Hid (w.heap.size ≤ b8 ∧ Bx < b8 ∧ b8 ≤ w12.heap.size) := ⟨HB80.out.1, HB80.out.2, HL.out⟩
   have HOB : Hid (∀ k, (Value.slice A8 (N - 1) c8).ownBlock = some k → k < w12.heap.size ∧ k < w12.heap.size + 1) := fun k hk => by
    have := HO12.out.lt k hk
    omega
   obtain ⟨lc, hlc⟩ : ∃ lc : List SLot, lc = lb ++ [⟨LA, hA⟩, ⟨LB, hB⟩] := ⟨_, rfl⟩
   have HLC : Hid (∀ v5 (w5 : World), w5.ownsRow b8 36 7 v5 (lb.length + 2) (flatL lb ++ (LA.cells.toList ++ LB.cells.toList)) → LotR w5 lc v5) := fun v5 w5 h => by
    rw [hlc]
    exact lotr_app (sa := ⟨LA, hA⟩) (sb := ⟨LB, hB⟩) h
   have HLZ : Hid (lb.length ≤ 100000) := by rw [Hid, HLB.out]; omega
   have e1 : sumBy qtyOf (ownL lc x.1.inst) = Q := by
    rw [hlc, sum_two qtyOf lb ⟨LA, hA⟩ ⟨LB, hB⟩ x.1.inst iA iB, HSG.out.1]
    show S + (vl LA.qty + vl LB.qty) = Q
    rw [sq]
    exact HS.out
   have e2 : sumBy costOf (ownL lc x.1.inst) = C := by
    rw [hlc, sum_two costOf lb ⟨LA, hA⟩ ⟨LB, hB⟩ x.1.inst iA iB, HSG.out.2]
    show G + (vl LA.cost + vl LB.cost) = C
    rw [sc]
    exact HF.out
   have hlcl : lc.length ≤ 1000000 := by rw [hlc]; simp; have := HLB.out; omega
   have hT4 := fun A5 c5 n5 (W : World) (h1 : RdB n5 W A5 lc) (h2 : n5 ≤ W.heap.size) (h3 : Below w.heap.size w W) => lTotal_any n5 A5 lc c5 x.1.inst W hlcl h1 h2 (HT.out.below h3)
   rw [e1, e2] at hT4
   have HTOT4 := Lib.hid hT4
   clear hT4 e1 e2 hlc hlcl sq sc iA iB
   go_upto_region 15 with fail
   have b15 : Below w12.heap.size w12 (((w12.alloc (.cells #[.string LA.id, .string LA.inst, .int .i64 LA.acq, .int .i64 LA.opn, .string LA.qty, .string LA.cost, .string LA.used] 36)).alloc (.cells #[.string LB.id, .string LB.inst, .int .i64 LB.acq, .int .i64 LB.opn, .string LB.qty, .string LB.cost, .string LB.used] 36)).drew) := (((Below.refl _ w12).alloc (Nat.le_refl _) _).alloc (by simp) _).drew
   have hgF : XU w x.1 LA LB Bx w12.heap.size (w12.heap.size + 1) (((w12.alloc (.cells #[.string LA.id, .string LA.inst, .int .i64 LA.acq, .int .i64 LA.opn, .string LA.qty, .string LA.cost, .string LA.used] 36)).alloc (.cells #[.string LB.id, .string LB.inst, .int .i64 LB.acq, .int .i64 LB.opn, .string LB.qty, .string LB.cost, .string LB.used] 36)).drew) := by
    refine ⟨HG12.out.be.trans (b15.mono HG12.out.be.size), HG12.out.bx.below b15, ?_, ?_⟩
    ·exact LotBox.below (W := w12.alloc (.cells #[.string LA.id, .string LA.inst, .int .i64 LA.acq, .int .i64 LA.opn, .string LA.qty, .string LA.cost, .string LA.used] 36)) (B := w12.heap.size) (l := LA) (heap_alloc_new w12 _) ((Below.refl _ _).alloc (Nat.le_refl _) _).drew
    ·have h := heap_alloc_new (w12.alloc (.cells #[.string LA.id, .string LA.inst, .int .i64 LA.acq, .int .i64 LA.opn, .string LA.qty, .string LA.cost, .string LA.used] 36)) (.cells #[.string LB.id, .string LB.inst, .int .i64 LB.acq, .int .i64 LB.opn, .string LB.qty, .string LB.cost, .string LB.used] 36)
     rw [World.size_alloc] at h
     exact h
   have hoF := own_below HO12.out b15
   have HLT12 : Hid True := trivial
   clear b15 HG12 HO12 HL HB80
   have mixed : Tryz.prog.follows .mixedOrders = true := by kernel_rfl
   refine wp_region_any mixed (wpAny_inv (TFJ w x.1 LA LB Bx w12.heap.size (w12.heap.size + 1) b8 A8 (N - 1) c8 lb lc Q C _ _ _ _ _ _ _ _ _ _ _ _ _ _ _ _ _ _ _ _ _ _ _ _ _ _ _ _ _ _ _ _ _ _ _ _ _ _ _ _ _ _ _ _ _ _ _ _ _ _ _ _ _ _ _ _ _ _ _ _ _ _ _ _ _ _ _ _ _ _ _ _ _ _ _ _ _ _ _ _ _ _ _ _ _ _ _ _ _ _ _ _ _ _ _ _ _ _ _ _ _ _ _ _ _ _ _ _ _ _ _ _ _ _ _ _ _ _ _ _ _ _ _ _ _ _ _ _ _ _ _) ?stTF ?dnTF _ _ _ _ ⟨by simp, ⟨0, _, _, _, _, _, _, _, _, _, _, _, _, _, rfl, fun h => by simp at h, fun h => by simp at h, fun h => by simp at h, fun h => by simp at h, fun h => by simp at h, fun h => by simp at h, fun h => by simp at h, fun h => by simp at h, fun h => by simp at h, fun h => by simp at h, fun h => by simp at h, fun h => by simp at h, hgF, fun _ => hoF, fun h => by simp at h, fun h => by simp at h, fun h => by simp at h, fun h => by simp at h, fun h => by simp at h⟩⟩ (by decide))
   case dnTF =>
    intro L a w' hj hr
    have all : ∀ i, i < 13 → L.getD i false = true := by
     intro i
     induction i using Nat.strongRecOn with
     | ind i ih =>
       intro hi
       refine (off_or_on L i).resolve_left fun h => ?_
       refine List.eq_nil_iff_forall_not_mem.1 hr i (ready_of (by rw [hj.sz]; exact hi) h (Array.getElem?_eq_getElem (by simpa using hi)) (fun e he hbd => ih e.on ?_ ?_))
       ·rcases (show i = 0 ∨ i = 1 ∨ i = 2 ∨ i = 3 ∨ i = 4 ∨ i = 5 ∨ i = 6 ∨ i = 7 ∨ i = 8 ∨ i = 9 ∨ i = 10 ∨ i = 11 ∨ i = 12 from by omega) with rfl | rfl | rfl | rfl | rfl | rfl | rfl | rfl | rfl | rfl | rfl | rfl | rfl
        ·simp at he
        ·simp at he
        ·simp at he
        ·simp at he
         rcases he with rfl | rfl
         all_goals first | decide | (exact absurd hbd (by decide))
        ·simp at he
         rcases he with rfl | rfl
         all_goals first | decide | (exact absurd hbd (by decide))
        ·simp at he
        ·simp at he
         subst he
         first | decide | (exact absurd hbd (by decide))
        ·simp at he
         rcases he with rfl | rfl | rfl
         all_goals first | decide | (exact absurd hbd (by decide))
        ·simp at he
         subst he
         first | decide | (exact absurd hbd (by decide))
        ·simp at he
         subst he
         first | decide | (exact absurd hbd (by decide))
        ·simp at he
         rcases he with rfl | rfl
         all_goals first | decide | (exact absurd hbd (by decide))
        ·simp at he
         rcases he with rfl | rfl | rfl | rfl | rfl | rfl | rfl | rfl | rfl | rfl | rfl | rfl | rfl
         all_goals first | decide | (exact absurd hbd (by decide))
        ·simp at he
         rcases he with rfl | rfl | rfl | rfl | rfl | rfl | rfl | rfl | rfl | rfl | rfl | rfl | rfl | rfl
         all_goals first | decide | (exact absurd hbd (by decide))
       ·rcases (show i = 0 ∨ i = 1 ∨ i = 2 ∨ i = 3 ∨ i = 4 ∨ i = 5 ∨ i = 6 ∨ i = 7 ∨ i = 8 ∨ i = 9 ∨ i = 10 ∨ i = 11 ∨ i = 12 from by omega) with rfl | rfl | rfl | rfl | rfl | rfl | rfl | rfl | rfl | rfl | rfl | rfl | rfl
        ·simp at he
        ·simp at he
        ·simp at he
        ·simp at he
         rcases he with rfl | rfl
         all_goals first | decide | (exact absurd hbd (by decide))
        ·simp at he
         rcases he with rfl | rfl
         all_goals first | decide | (exact absurd hbd (by decide))
        ·simp at he
        ·simp at he
         subst he
         first | decide | (exact absurd hbd (by decide))
        ·simp at he
         rcases he with rfl | rfl | rfl
         all_goals first | decide | (exact absurd hbd (by decide))
        ·simp at he
         subst he
         first | decide | (exact absurd hbd (by decide))
        ·simp at he
         subst he
         first | decide | (exact absurd hbd (by decide))
        ·simp at he
         rcases he with rfl | rfl
         all_goals first | decide | (exact absurd hbd (by decide))
        ·simp at he
         rcases he with rfl | rfl | rfl | rfl | rfl | rfl | rfl | rfl | rfl | rfl | rfl | rfl | rfl
         all_goals first | decide | (exact absurd hbd (by decide))
        ·simp at he
         rcases he with rfl | rfl | rfl | rfl | rfl | rfl | rfl | rfl | rfl | rfl | rfl | rfl | rfl | rfl
         all_goals first | decide | (exact absurd hbd (by decide))
    obtain ⟨Bn, s20, s21, s126, s127, s128, s129, s130, s131, s132, s133, s134, s135, s136, rfl, hv⟩ := hj.fr
    have e20 := hv.k11 (all 11 (by omega)); have e21 := hv.k12 (all 12 (by omega))
    subst e20 e21
    have HF9 := Lib.hid hv.g.be
    clear all hv hj hr
    dsimp only
    go_wp2_with fail
    refine (awake19_any _ (HT.out.below HF9.out)).mono ?_
    rintro e wz ⟨rfl, bz⟩
    have HZ := Lib.hid (HF9.out.trans (bz.mono HF9.out.size))
    clear bz
    go_wp2_with fail
    go_ret
    exact ⟨rfl, HZ.out⟩
   case stTF =>
    intro L a w' hj i hi
    obtain ⟨hun, o, ho, hall⟩ := mem_ready.1 hi
    have hoff := getD_off hun
    have hlt := (Array.getElem?_eq_some_iff.1 ho).1
    simp at hlt
    obtain ⟨Bn, s20, s21, s126, s127, s128, s129, s130, s131, s132, s133, s134, s135, s136, rfl, hv⟩ := hj.fr
    have HV := Lib.hid hv
    have HJ := Lib.hid hj
    clear hv hj
    rcases (show i = 0 ∨ i = 1 ∨ i = 2 ∨ i = 3 ∨ i = 4 ∨ i = 5 ∨ i = 6 ∨ i = 7 ∨ i = 8 ∨ i = 9 ∨ i = 10 ∨ i = 11 ∨ i = 12 from by omega) with rfl | rfl | rfl | rfl | rfl | rfl | rfl | rfl | rfl | rfl | rfl | rfl | rfl
    ·simp at ho
     subst ho
     clear hall hi
     refine wpOp_step rfl (fun K' hK' => ?_)
     have HK := Lib.hid hK'
     clear hK'
     go_simp
     exact HK.out _ _ ⟨by simp [HJ.out.sz], ⟨_, _, _, _, _, _, _, _, _, _, _, _, _, _, rfl, fun _ => rfl, Um HV.out.k1, Um HV.out.k2, Um HV.out.k3, Um HV.out.k5, Um HV.out.k6, Um HV.out.k7, Um HV.out.k8, Um HV.out.k9, Um HV.out.k10, Um HV.out.k11, Um HV.out.k12, HV.out.g, fun h => HV.out.o (Dz h), Um HV.out.t3, Um HV.out.n3, Um HV.out.r4, fun h => getD_up hun (HV.out.q4 (Uz h)), fun h => getD_up hun (HV.out.q7 (Uz h))⟩⟩
    ·simp at ho
     subst ho
     clear hall hi
     have hxx := HV.out.g.ba
     have c0 := Lib.cell_of_heap hxx 0; have c1 := Lib.cell_of_heap hxx 1; have c2 := Lib.cell_of_heap hxx 2; have c3 := Lib.cell_of_heap hxx 3; have c4 := Lib.cell_of_heap hxx 4; have c5 := Lib.cell_of_heap hxx 5; have c6 := Lib.cell_of_heap hxx 6; simp [Lot.cells] at c0 c1 c2 c3 c4 c5 c6
     refine wpOp_step rfl (fun K' hK' => ?_)
     have HK := Lib.hid hK'
     clear hK'
     go_simp
     exact HK.out _ _ ⟨by simp [HJ.out.sz], ⟨_, _, _, _, _, _, _, _, _, _, _, _, _, _, rfl, Um HV.out.k0, fun _ => rfl, Um HV.out.k2, Um HV.out.k3, Um HV.out.k5, Um HV.out.k6, Um HV.out.k7, Um HV.out.k8, Um HV.out.k9, Um HV.out.k10, Um HV.out.k11, Um HV.out.k12, HV.out.g, fun h => HV.out.o (Dz h), Um HV.out.t3, Um HV.out.n3, Um HV.out.r4, fun h => getD_up hun (HV.out.q4 (Uz h)), fun h => getD_up hun (HV.out.q7 (Uz h))⟩⟩
    ·simp at ho
     subst ho
     clear hall hi
     have hxx := HV.out.g.bb
     have c0 := Lib.cell_of_heap hxx 0; have c1 := Lib.cell_of_heap hxx 1; have c2 := Lib.cell_of_heap hxx 2; have c3 := Lib.cell_of_heap hxx 3; have c4 := Lib.cell_of_heap hxx 4; have c5 := Lib.cell_of_heap hxx 5; have c6 := Lib.cell_of_heap hxx 6; simp [Lot.cells] at c0 c1 c2 c3 c4 c5 c6
     refine wpOp_step rfl (fun K' hK' => ?_)
     have HK := Lib.hid hK'
     clear hK'
     go_simp
     exact HK.out _ _ ⟨by simp [HJ.out.sz], ⟨_, _, _, _, _, _, _, _, _, _, _, _, _, _, rfl, Um HV.out.k0, Um HV.out.k1, fun _ => rfl, Um HV.out.k3, Um HV.out.k5, Um HV.out.k6, Um HV.out.k7, Um HV.out.k8, Um HV.out.k9, Um HV.out.k10, Um HV.out.k11, Um HV.out.k12, HV.out.g, fun h => HV.out.o (Dz h), Um HV.out.t3, Um HV.out.n3, Um HV.out.r4, fun h => getD_up hun (HV.out.q4 (Uz h)), fun h => getD_up hun (HV.out.q7 (Uz h))⟩⟩
    ·simp at ho
     subst ho
     have H1 := Lib.hid (hall { on := 1, ground := .data } (by simp) (by decide))
     have H2 := Lib.hid (hall { on := 2, ground := .data } (by simp) (by decide))
     clear hall hi
     have e0 := HV.out.k1 H1.out
     subst e0
     have e1 := HV.out.k2 H2.out
     subst e1
     have h4 : L.getD 4 false = false := (off_or_on L 4).resolve_right (fun h => not_on hoff (HV.out.q4 h))
     have ba : Below w'.heap.size w' (w'.alloc (.cells #[.string LA.id, .string LA.inst, .int .i64 LA.acq, .int .i64 LA.opn, .string LA.qty, .string LA.cost, .string LA.used, .string LB.id, .string LB.inst, .int .i64 LB.acq, .int .i64 LB.opn, .string LB.qty, .string LB.cost, .string LB.used] 36)) := (Below.refl _ _).alloc (Nat.le_refl _) _
     have hg := HV.out.g.below ba
     refine wpOp_step rfl (fun K' hK' => ?_)
     have HK := Lib.hid hK'
     clear hK'
     go_simp
     exact HK.out _ _ ⟨by simp [HJ.out.sz], ⟨w'.heap.size, _, _, _, _, _, _, _, _, _, _, _, _, _, rfl, Um HV.out.k0, Um HV.out.k1, Um HV.out.k2, fun _ => rfl, Um HV.out.k5, Um HV.out.k6, Um HV.out.k7, Um HV.out.k8, Um HV.out.k9, Um HV.out.k10, Um HV.out.k11, Um HV.out.k12, hg, fun h => own_below (HV.out.o (Dz h)) ba, fun _ => heap_alloc_new _ _, fun _ => HV.out.g.bb.lt, fun h => (not_on h4 (Uz h)).elim, fun h => getD_up hun (HV.out.q4 (Uz h)), fun h => getD_up hun (HV.out.q7 (Uz h))⟩⟩
    ·simp at ho
     subst ho
     have H0 := Lib.hid (hall { on := 0, ground := .data } (by simp) (by decide))
     have H3 := Lib.hid (hall { on := 3, ground := .data } (by simp) (by decide))
     clear hall hi
     have e0 := HV.out.k0 H0.out
     subst e0
     have e1 := HV.out.k3 H3.out
     subst e1
     have HO := Lib.hid (HV.out.o hoff)
     have HB3 := Lib.hid (HV.out.t3 H3.out)
     have HN3 := Lib.hid (HV.out.n3 H3.out)
     obtain ⟨i0, hi0, hz0, hz1, hz2⟩ := info_parts Tryz.infoLot
     obtain ⟨v5, w5, hrun, ho5, hg5⟩ := run_app2 w' b8 (.slice A8 (N - 1) c8) lb.length (flatL lb) HO.out Bn LA LB HB3.out HLZ.out (by have h3 := HB8.out; have h4 := HV.out.g.ba.lt; omega)
     clear hi0 hz0 hz1 hz2 i0
     have HG := Lib.hid (HV.out.g.grown hg5 (fun k hk => by have h1 := HO.out.lt k hk; have h2 := HOB.out k hk; have h3 := HB8.out; omega))
     have HRN := Lib.hid hrun
     have HO5 := Lib.hid ho5
     have HG5 := Lib.hid hg5
     clear hrun ho5 hg5
     refine wpOp_step rfl (fun K' hK' => ?_)
     have HK := Lib.hid hK'
     clear hK'
     refine step_append_run' HRN.out rfl _ _ rfl rfl rfl rfl ?_
     go_simp
     exact HK.out _ _ ⟨by simp [HJ.out.sz], ⟨_, _, _, _, _, _, _, _, _, _, _, _, _, _, rfl, Um HV.out.k0, Um HV.out.k1, Um HV.out.k2, Um HV.out.k3, Um HV.out.k5, Um HV.out.k6, Um HV.out.k7, Um HV.out.k8, Um HV.out.k9, Um HV.out.k10, Um HV.out.k11, Um HV.out.k12, HG.out, fun h => (not_on h (getD_set_same hun)).elim, fun h => (HG5.out.block _ (Array.getElem?_eq_some_iff.1 (HV.out.t3 (Uz h))).1 (fun e => by have h2 := HOB.out _ e.symm; have h3 := HN3.out; omega)).trans (HV.out.t3 (Uz h)), Um HV.out.n3, fun _ => HLC.out _ _ HO5.out, fun _ => getD_up hun H3.out, fun h => getD_up hun (HV.out.q7 (Uz h))⟩⟩
    ·simp at ho
     subst ho
     clear hall hi
     refine wpOp_step rfl (fun K' hK' => ?_)
     have HK := Lib.hid hK'
     clear hK'
     go_simp
     exact HK.out _ _ ⟨by simp [HJ.out.sz], ⟨_, _, _, _, _, _, _, _, _, _, _, _, _, _, rfl, Um HV.out.k0, Um HV.out.k1, Um HV.out.k2, Um HV.out.k3, fun _ => rfl, Um HV.out.k6, Um HV.out.k7, Um HV.out.k8, Um HV.out.k9, Um HV.out.k10, Um HV.out.k11, Um HV.out.k12, HV.out.g, fun h => HV.out.o (Dz h), Um HV.out.t3, Um HV.out.n3, Um HV.out.r4, fun h => getD_up hun (HV.out.q4 (Uz h)), fun h => getD_up hun (HV.out.q7 (Uz h))⟩⟩
    ·simp at ho
     subst ho
     have H5 := Lib.hid (hall { on := 5, ground := .data } (by simp) (by decide))
     clear hall hi
     have e0 := HV.out.k5 H5.out
     subst e0
     have hc := Lib.cell_of_heap HV.out.g.bx 1; simp [Lot.cells] at hc
     refine wpOp_step rfl (fun K' hK' => ?_)
     have HK := Lib.hid hK'
     clear hK'
     go_simp
     exact HK.out _ _ ⟨by simp [HJ.out.sz], ⟨_, _, _, _, _, _, _, _, _, _, _, _, _, _, rfl, Um HV.out.k0, Um HV.out.k1, Um HV.out.k2, Um HV.out.k3, Um HV.out.k5, fun _ => rfl, Um HV.out.k7, Um HV.out.k8, Um HV.out.k9, Um HV.out.k10, Um HV.out.k11, Um HV.out.k12, HV.out.g, fun h => HV.out.o (Dz h), Um HV.out.t3, Um HV.out.n3, Um HV.out.r4, fun h => getD_up hun (HV.out.q4 (Uz h)), fun h => getD_up hun (HV.out.q7 (Uz h))⟩⟩
    ·simp at ho
     subst ho
     have H4 := Lib.hid (hall { on := 4, ground := .data } (by simp) (by decide))
     have H6 := Lib.hid (hall { on := 6, ground := .data } (by simp) (by decide))
     clear hall hi
     have e0 := HV.out.k6 H6.out
     subst e0
     obtain ⟨A5, c5, n5, e5, hr5, hn5⟩ := HV.out.r4 H4.out
     subst e5
     refine wpOp_step rfl (fun K' hK' => ?_)
     have HK := Lib.hid hK'
     clear hK'
     go_simp
     refine (HTOT4.out A5 c5 n5 _ hr5 hn5 HV.out.g.be).mono ?_
     rintro e wn ⟨rfl, bn⟩
     have hg := HV.out.g.below bn
     exact HK.out _ _ ⟨by simp [HJ.out.sz], ⟨_, _, _, _, _, _, _, _, _, _, _, _, _, _, rfl, Um HV.out.k0, Um HV.out.k1, Um HV.out.k2, Um HV.out.k3, Um HV.out.k5, Um HV.out.k6, fun _ => rfl, Um HV.out.k8, Um HV.out.k9, Um HV.out.k10, Um HV.out.k11, Um HV.out.k12, hg, fun h => own_below (HV.out.o (Dz h)) bn, fun h => (bn.block _ (Array.getElem?_eq_some_iff.1 (HV.out.t3 (Uz h))).1).trans (HV.out.t3 (Uz h)), Um HV.out.n3, fun _ => ⟨A5, c5, n5, rfl, hr5.below (bn.mono hn5), Nat.le_trans hn5 bn.size⟩, fun h => getD_up hun (HV.out.q4 (Uz h)), fun _ => getD_up hun H4.out⟩⟩
    ·simp at ho
     subst ho
     have H7 := Lib.hid (hall { on := 7, ground := .data } (by simp) (by decide))
     clear hall hi
     have e0 := HV.out.k7 H7.out
     subst e0
     refine wpOp_step rfl (fun K' hK' => ?_)
     have HK := Lib.hid hK'
     clear hK'
     go_simp
     exact HK.out _ _ ⟨by simp [HJ.out.sz], ⟨_, _, _, _, _, _, _, _, _, _, _, _, _, _, rfl, Um HV.out.k0, Um HV.out.k1, Um HV.out.k2, Um HV.out.k3, Um HV.out.k5, Um HV.out.k6, Um HV.out.k7, fun _ => rfl, Um HV.out.k9, Um HV.out.k10, Um HV.out.k11, Um HV.out.k12, HV.out.g, fun h => HV.out.o (Dz h), Um HV.out.t3, Um HV.out.n3, Um HV.out.r4, fun h => getD_up hun (HV.out.q4 (Uz h)), fun h => getD_up hun (HV.out.q7 (Uz h))⟩⟩
    ·simp at ho
     subst ho
     have H8 := Lib.hid (hall { on := 8, ground := .data } (by simp) (by decide))
     clear hall hi
     have e0 := HV.out.k8 H8.out
     subst e0
     refine wpOp_step rfl (fun K' hK' => ?_)
     have HK := Lib.hid hK'
     clear hK'
     go_simp
     exact HK.out _ _ ⟨by simp [HJ.out.sz], ⟨_, _, _, _, _, _, _, _, _, _, _, _, _, _, rfl, Um HV.out.k0, Um HV.out.k1, Um HV.out.k2, Um HV.out.k3, Um HV.out.k5, Um HV.out.k6, Um HV.out.k7, Um HV.out.k8, fun _ => rfl, Um HV.out.k10, Um HV.out.k11, Um HV.out.k12, HV.out.g, fun h => HV.out.o (Dz h), Um HV.out.t3, Um HV.out.n3, Um HV.out.r4, fun h => getD_up hun (HV.out.q4 (Uz h)), fun h => getD_up hun (HV.out.q7 (Uz h))⟩⟩
    ·simp at ho
     subst ho
     have H8 := Lib.hid (hall { on := 8, ground := .data } (by simp) (by decide))
     clear hall hi
     have e0 := HV.out.k8 H8.out
     subst e0
     refine wpOp_step rfl (fun K' hK' => ?_)
     have HK := Lib.hid hK'
     clear hK'
     go_simp
     exact HK.out _ _ ⟨by simp [HJ.out.sz], ⟨_, _, _, _, _, _, _, _, _, _, _, _, _, _, rfl, Um HV.out.k0, Um HV.out.k1, Um HV.out.k2, Um HV.out.k3, Um HV.out.k5, Um HV.out.k6, Um HV.out.k7, Um HV.out.k8, Um HV.out.k9, fun _ => rfl, Um HV.out.k11, Um HV.out.k12, HV.out.g, fun h => HV.out.o (Dz h), Um HV.out.t3, Um HV.out.n3, Um HV.out.r4, fun h => getD_up hun (HV.out.q4 (Uz h)), fun h => getD_up hun (HV.out.q7 (Uz h))⟩⟩
    ·simp at ho
     subst ho
     have H9 := Lib.hid (hall { on := 9, ground := .data } (by simp) (by decide))
     clear hall hi
     have e0 := HV.out.k9 H9.out
     subst e0
     refine wpOp_step rfl (fun K' hK' => ?_)
     have HK := Lib.hid hK'
     clear hK'
     go_simp
     exact HK.out _ _ ⟨by simp [HJ.out.sz], ⟨_, _, _, _, _, _, _, _, _, _, _, _, _, _, rfl, Um HV.out.k0, Um HV.out.k1, Um HV.out.k2, Um HV.out.k3, Um HV.out.k5, Um HV.out.k6, Um HV.out.k7, Um HV.out.k8, Um HV.out.k9, Um HV.out.k10, fun _ => rfl, Um HV.out.k12, HV.out.g, fun h => HV.out.o (Dz h), Um HV.out.t3, Um HV.out.n3, Um HV.out.r4, fun h => getD_up hun (HV.out.q4 (Uz h)), fun h => getD_up hun (HV.out.q7 (Uz h))⟩⟩
    ·simp at ho
     subst ho
     have H10 := Lib.hid (hall { on := 10, ground := .data } (by simp) (by decide))
     clear hall hi
     have e0 := HV.out.k10 H10.out
     subst e0
     refine wpOp_step rfl (fun K' hK' => ?_)
     have HK := Lib.hid hK'
     clear hK'
     go_simp
     exact HK.out _ _ ⟨by simp [HJ.out.sz], ⟨_, _, _, _, _, _, _, _, _, _, _, _, _, _, rfl, Um HV.out.k0, Um HV.out.k1, Um HV.out.k2, Um HV.out.k3, Um HV.out.k5, Um HV.out.k6, Um HV.out.k7, Um HV.out.k8, Um HV.out.k9, Um HV.out.k10, Um HV.out.k11, fun _ => rfl, HV.out.g, fun h => HV.out.o (Dz h), Um HV.out.t3, Um HV.out.n3, Um HV.out.r4, fun h => getD_up hun (HV.out.q4 (Uz h)), fun h => getD_up hun (HV.out.q7 (Uz h))⟩⟩
  case stTE =>
   intro L a w' hj i hi
   obtain ⟨hun, o, ho, hall⟩ := mem_ready.1 hi
   have hoff := getD_off hun
   have hlt := (Array.getElem?_eq_some_iff.1 ho).1
   simp at hlt
   obtain ⟨Bn, s14, s76, s77, s78, s79, s80, s81, s82, s83, s84, rfl, hv⟩ := hj.fr
   have HV := Lib.hid hv
   have HJ := Lib.hid hj
   clear hv hj
   rcases (show i = 0 ∨ i = 1 ∨ i = 2 ∨ i = 3 ∨ i = 4 ∨ i = 5 ∨ i = 6 ∨ i = 7 ∨ i = 8 ∨ i = 9 from by omega) with rfl | rfl | rfl | rfl | rfl | rfl | rfl | rfl | rfl | rfl
   ·simp at ho
    subst ho
    clear hall hi
    refine wpOp_step rfl (fun K' hK' => ?_)
    have HK := Lib.hid hK'
    clear hK'
    go_simp
    exact HK.out _ _ ⟨by simp [HJ.out.sz], ⟨_, _, _, _, _, _, _, _, _, _, _, rfl, fun _ => rfl, Um HV.out.k1, Um HV.out.k2, Um HV.out.k3, Um HV.out.k4, Um HV.out.k5, Um HV.out.k6, Um HV.out.k7, HV.out.g, Um HV.out.t7, Um HV.out.r8, Um HV.out.r9, fun h => getD_up hun (HV.out.q8 (Uz h)), fun h => getD_up hun (HV.out.q9 (Uz h))⟩⟩
   ·simp at ho
    subst ho
    clear hall hi
    refine wpOp_step rfl (fun K' hK' => ?_)
    have HK := Lib.hid hK'
    clear hK'
    go_simp
    exact HK.out _ _ ⟨by simp [HJ.out.sz], ⟨_, _, _, _, _, _, _, _, _, _, _, rfl, Um HV.out.k0, fun _ => rfl, Um HV.out.k2, Um HV.out.k3, Um HV.out.k4, Um HV.out.k5, Um HV.out.k6, Um HV.out.k7, HV.out.g, Um HV.out.t7, Um HV.out.r8, Um HV.out.r9, fun h => getD_up hun (HV.out.q8 (Uz h)), fun h => getD_up hun (HV.out.q9 (Uz h))⟩⟩
   ·simp at ho
    subst ho
    have H0 := Lib.hid (hall { on := 0, ground := .data } (by simp) (by decide))
    have H1 := Lib.hid (hall { on := 1, ground := .data } (by simp) (by decide))
    clear hall hi
    have e0 := HV.out.k0 H0.out
    subst e0
    have e1 := HV.out.k1 H1.out
    subst e1
    have hsl := HSO.out
    refine wpOp_step rfl (fun K' hK' => ?_)
    have HK := Lib.hid hK'
    clear hK'
    go_simp
    exact HK.out _ _ ⟨by simp [HJ.out.sz], ⟨_, _, _, _, _, _, _, _, _, _, _, rfl, Um HV.out.k0, Um HV.out.k1, fun _ => rfl, Um HV.out.k3, Um HV.out.k4, Um HV.out.k5, Um HV.out.k6, Um HV.out.k7, HV.out.g, Um HV.out.t7, Um HV.out.r8, Um HV.out.r9, fun h => getD_up hun (HV.out.q8 (Uz h)), fun h => getD_up hun (HV.out.q9 (Uz h))⟩⟩
   ·simp at ho
    subst ho
    clear hall hi
    refine wpOp_step rfl (fun K' hK' => ?_)
    have HK := Lib.hid hK'
    clear hK'
    go_simp
    exact HK.out _ _ ⟨by simp [HJ.out.sz], ⟨_, _, _, _, _, _, _, _, _, _, _, rfl, Um HV.out.k0, Um HV.out.k1, Um HV.out.k2, fun _ => rfl, Um HV.out.k4, Um HV.out.k5, Um HV.out.k6, Um HV.out.k7, HV.out.g, Um HV.out.t7, Um HV.out.r8, Um HV.out.r9, fun h => getD_up hun (HV.out.q8 (Uz h)), fun h => getD_up hun (HV.out.q9 (Uz h))⟩⟩
   ·simp at ho
    subst ho
    clear hall hi
    refine wpOp_step rfl (fun K' hK' => ?_)
    have HK := Lib.hid hK'
    clear hK'
    go_simp
    exact HK.out _ _ ⟨by simp [HJ.out.sz], ⟨_, _, _, _, _, _, _, _, _, _, _, rfl, Um HV.out.k0, Um HV.out.k1, Um HV.out.k2, Um HV.out.k3, fun _ => rfl, Um HV.out.k5, Um HV.out.k6, Um HV.out.k7, HV.out.g, Um HV.out.t7, Um HV.out.r8, Um HV.out.r9, fun h => getD_up hun (HV.out.q8 (Uz h)), fun h => getD_up hun (HV.out.q9 (Uz h))⟩⟩
   ·simp at ho
    subst ho
    have H4 := Lib.hid (hall { on := 4, ground := .data } (by simp) (by decide))
    clear hall hi
    have e0 := HV.out.k4 H4.out
    subst e0
    have hwr := HWR.out
    refine wpOp_step rfl (fun K' hK' => ?_)
    have HK := Lib.hid hK'
    clear hK'
    go_simp
    exact HK.out _ _ ⟨by simp [HJ.out.sz], ⟨_, _, _, _, _, _, _, _, _, _, _, rfl, Um HV.out.k0, Um HV.out.k1, Um HV.out.k2, Um HV.out.k3, Um HV.out.k4, fun _ => rfl, Um HV.out.k6, Um HV.out.k7, HV.out.g, Um HV.out.t7, Um HV.out.r8, Um HV.out.r9, fun h => getD_up hun (HV.out.q8 (Uz h)), fun h => getD_up hun (HV.out.q9 (Uz h))⟩⟩
   ·simp at ho
    subst ho
    have H3 := Lib.hid (hall { on := 3, ground := .data } (by simp) (by decide))
    have H5 := Lib.hid (hall { on := 5, ground := .data } (by simp) (by decide))
    clear hall hi
    have e0 := HV.out.k3 H3.out
    subst e0
    have e1 := HV.out.k5 H5.out
    subst e1
    have hsl := HSH2.out
    refine wpOp_step rfl (fun K' hK' => ?_)
    have HK := Lib.hid hK'
    clear hK'
    go_simp
    exact HK.out _ _ ⟨by simp [HJ.out.sz], ⟨_, _, _, _, _, _, _, _, _, _, _, rfl, Um HV.out.k0, Um HV.out.k1, Um HV.out.k2, Um HV.out.k3, Um HV.out.k4, Um HV.out.k5, fun _ => rfl, Um HV.out.k7, HV.out.g, Um HV.out.t7, Um HV.out.r8, Um HV.out.r9, fun h => getD_up hun (HV.out.q8 (Uz h)), fun h => getD_up hun (HV.out.q9 (Uz h))⟩⟩
   ·simp at ho
    subst ho
    have H2 := Lib.hid (hall { on := 2, ground := .data } (by simp) (by decide))
    have H6 := Lib.hid (hall { on := 6, ground := .data } (by simp) (by decide))
    clear hall hi
    have e0 := HV.out.k2 H2.out
    subst e0
    have e1 := HV.out.k6 H6.out
    subst e1
    have ba : Below w'.heap.size w' (w'.alloc (.cells #[.slice (some ad) k c, .slice (some a3) (N - kn) (c - kn)] 22)) := (Below.refl _ _).alloc (Nat.le_refl _) _
    have hg := HV.out.g.below ba
    refine wpOp_step rfl (fun K' hK' => ?_)
    have HK := Lib.hid hK'
    clear hK'
    go_simp
    exact HK.out _ _ ⟨by simp [HJ.out.sz], ⟨w'.heap.size, _, _, _, _, _, _, _, _, _, _, rfl, Um HV.out.k0, Um HV.out.k1, Um HV.out.k2, Um HV.out.k3, Um HV.out.k4, Um HV.out.k5, Um HV.out.k6, fun _ => rfl, hg, fun _ => heap_alloc_new _ _, fun h => (not_on hoff (HV.out.q8 (Uz h))).elim, fun h => (not_on hoff (HV.out.q8 (HV.out.q9 (Uz h)))).elim, fun h => getD_up hun (HV.out.q8 (Uz h)), fun h => getD_up hun (HV.out.q9 (Uz h))⟩⟩
   ·simp at ho
    subst ho
    have H7 := Lib.hid (hall { on := 7, ground := .data } (by simp) (by decide))
    clear hall hi
    have e0 := HV.out.k7 H7.out
    subst e0
    refine wpOp_step rfl (fun K' hK' => ?_)
    have HK := Lib.hid hK'
    clear hK'
    go_simp
    refine (HCAT2.out _ _ (HV.out.t7 H7.out) HV.out.g).mono ?_
    rintro e wn ⟨v7, rfl, ho, bn⟩
    have hg := HV.out.g.below bn
    exact HK.out _ _ ⟨by simp [HJ.out.sz], ⟨_, _, _, _, _, _, _, _, _, _, _, rfl, Um HV.out.k0, Um HV.out.k1, Um HV.out.k2, Um HV.out.k3, Um HV.out.k4, Um HV.out.k5, Um HV.out.k6, Um HV.out.k7, hg, fun h => (bn.block _ (Array.getElem?_eq_some_iff.1 (HV.out.t7 (Uz h))).1).trans (HV.out.t7 (Uz h)), fun _ => ⟨_, ho, HV.out.g.be.size, bn.size, HV.out.g.bx.lt⟩, fun h => (not_on hoff (HV.out.q9 (Uz h))).elim, fun _ => getD_up hun H7.out, fun h => getD_up hun (HV.out.q9 (Uz h))⟩⟩
   ·simp at ho
    subst ho
    have H8 := Lib.hid (hall { on := 8, ground := .data } (by simp) (by decide))
    clear hall hi
    refine wpOp_step rfl (fun K' hK' => ?_)
    have HK := Lib.hid hK'
    clear hK'
    go_simp
    exact HK.out _ _ ⟨by simp [HJ.out.sz], ⟨_, _, _, _, _, _, _, _, _, _, _, rfl, Um HV.out.k0, Um HV.out.k1, Um HV.out.k2, Um HV.out.k3, Um HV.out.k4, Um HV.out.k5, Um HV.out.k6, Um HV.out.k7, HV.out.g, Um HV.out.t7, Um HV.out.r8, fun _ => HV.out.r8 H8.out, fun h => getD_up hun (HV.out.q8 (Uz h)), fun _ => getD_up hun H8.out⟩⟩
 case stTD =>
  intro L a w' hj i hi
  obtain ⟨hun, o, ho, hall⟩ := mem_ready.1 hi
  have hoff := getD_off hun
  have hlt := (Array.getElem?_eq_some_iff.1 ho).1
  simp at hlt
  obtain ⟨Bn, s11, s61, s62, s63, s64, s65, s66, s67, s68, rfl, hv⟩ := hj.fr
  have HV := Lib.hid hv
  have HJ := Lib.hid hj
  clear hv hj
  rcases (show i = 0 ∨ i = 1 ∨ i = 2 ∨ i = 3 ∨ i = 4 ∨ i = 5 ∨ i = 6 ∨ i = 7 ∨ i = 8 from by omega) with rfl | rfl | rfl | rfl | rfl | rfl | rfl | rfl | rfl
  ·simp at ho
   subst ho
   clear hall hi
   refine wpOp_step rfl (fun K' hK' => ?_)
   have HK := Lib.hid hK'
   clear hK'
   go_simp
   exact HK.out _ _ ⟨by simp [HJ.out.sz], ⟨_, _, _, _, _, _, _, _, _, _, rfl, fun _ => rfl, Um HV.out.k1, Um HV.out.k2, Um HV.out.k3, Um HV.out.k4, Um HV.out.k5, Um HV.out.k6, HV.out.g, Um HV.out.t6, Um HV.out.r7, Um HV.out.r8, fun h => getD_up hun (HV.out.q7 (Uz h)), fun h => getD_up hun (HV.out.q8 (Uz h))⟩⟩
  ·simp at ho
   subst ho
   clear hall hi
   refine wpOp_step rfl (fun K' hK' => ?_)
   have HK := Lib.hid hK'
   clear hK'
   go_simp
   exact HK.out _ _ ⟨by simp [HJ.out.sz], ⟨_, _, _, _, _, _, _, _, _, _, rfl, Um HV.out.k0, fun _ => rfl, Um HV.out.k2, Um HV.out.k3, Um HV.out.k4, Um HV.out.k5, Um HV.out.k6, HV.out.g, Um HV.out.t6, Um HV.out.r7, Um HV.out.r8, fun h => getD_up hun (HV.out.q7 (Uz h)), fun h => getD_up hun (HV.out.q8 (Uz h))⟩⟩
  ·simp at ho
   subst ho
   have H0 := Lib.hid (hall { on := 0, ground := .data } (by simp) (by decide))
   have H1 := Lib.hid (hall { on := 1, ground := .data } (by simp) (by decide))
   clear hall hi
   have e0 := HV.out.k0 H0.out
   subst e0
   have e1 := HV.out.k1 H1.out
   subst e1
   have hsl := HSH.out
   refine wpOp_step rfl (fun K' hK' => ?_)
   have HK := Lib.hid hK'
   clear hK'
   go_simp
   exact HK.out _ _ ⟨by simp [HJ.out.sz], ⟨_, _, _, _, _, _, _, _, _, _, rfl, Um HV.out.k0, Um HV.out.k1, fun _ => rfl, Um HV.out.k3, Um HV.out.k4, Um HV.out.k5, Um HV.out.k6, HV.out.g, Um HV.out.t6, Um HV.out.r7, Um HV.out.r8, fun h => getD_up hun (HV.out.q7 (Uz h)), fun h => getD_up hun (HV.out.q8 (Uz h))⟩⟩
  ·simp at ho
   subst ho
   clear hall hi
   refine wpOp_step rfl (fun K' hK' => ?_)
   have HK := Lib.hid hK'
   clear hK'
   go_simp
   exact HK.out _ _ ⟨by simp [HJ.out.sz], ⟨_, _, _, _, _, _, _, _, _, _, rfl, Um HV.out.k0, Um HV.out.k1, Um HV.out.k2, fun _ => rfl, Um HV.out.k4, Um HV.out.k5, Um HV.out.k6, HV.out.g, Um HV.out.t6, Um HV.out.r7, Um HV.out.r8, fun h => getD_up hun (HV.out.q7 (Uz h)), fun h => getD_up hun (HV.out.q8 (Uz h))⟩⟩
  ·simp at ho
   subst ho
   clear hall hi
   refine wpOp_step rfl (fun K' hK' => ?_)
   have HK := Lib.hid hK'
   clear hK'
   go_simp
   exact HK.out _ _ ⟨by simp [HJ.out.sz], ⟨_, _, _, _, _, _, _, _, _, _, rfl, Um HV.out.k0, Um HV.out.k1, Um HV.out.k2, Um HV.out.k3, fun _ => rfl, Um HV.out.k5, Um HV.out.k6, HV.out.g, Um HV.out.t6, Um HV.out.r7, Um HV.out.r8, fun h => getD_up hun (HV.out.q7 (Uz h)), fun h => getD_up hun (HV.out.q8 (Uz h))⟩⟩
  ·simp at ho
   subst ho
   have H3 := Lib.hid (hall { on := 3, ground := .data } (by simp) (by decide))
   have H4 := Lib.hid (hall { on := 4, ground := .data } (by simp) (by decide))
   clear hall hi
   have e0 := HV.out.k3 H3.out
   subst e0
   have e1 := HV.out.k4 H4.out
   subst e1
   have hsl := HSO.out
   refine wpOp_step rfl (fun K' hK' => ?_)
   have HK := Lib.hid hK'
   clear hK'
   go_simp
   exact HK.out _ _ ⟨by simp [HJ.out.sz], ⟨_, _, _, _, _, _, _, _, _, _, rfl, Um HV.out.k0, Um HV.out.k1, Um HV.out.k2, Um HV.out.k3, Um HV.out.k4, fun _ => rfl, Um HV.out.k6, HV.out.g, Um HV.out.t6, Um HV.out.r7, Um HV.out.r8, fun h => getD_up hun (HV.out.q7 (Uz h)), fun h => getD_up hun (HV.out.q8 (Uz h))⟩⟩
  ·simp at ho
   subst ho
   have H2 := Lib.hid (hall { on := 2, ground := .data } (by simp) (by decide))
   have H5 := Lib.hid (hall { on := 5, ground := .data } (by simp) (by decide))
   clear hall hi
   have e0 := HV.out.k2 H2.out
   subst e0
   have e1 := HV.out.k5 H5.out
   subst e1
   have ba : Below w'.heap.size w' (w'.alloc (.cells #[.slice (some a2) (N - k) (c - k), .slice (some ad) k c] 22)) := (Below.refl _ _).alloc (Nat.le_refl _) _
   have hg := HV.out.g.below ba
   refine wpOp_step rfl (fun K' hK' => ?_)
   have HK := Lib.hid hK'
   clear hK'
   go_simp
   exact HK.out _ _ ⟨by simp [HJ.out.sz], ⟨w'.heap.size, _, _, _, _, _, _, _, _, _, rfl, Um HV.out.k0, Um HV.out.k1, Um HV.out.k2, Um HV.out.k3, Um HV.out.k4, Um HV.out.k5, fun _ => rfl, hg, fun _ => heap_alloc_new _ _, fun h => (not_on hoff (HV.out.q7 (Uz h))).elim, fun h => (not_on hoff (HV.out.q7 (HV.out.q8 (Uz h)))).elim, fun h => getD_up hun (HV.out.q7 (Uz h)), fun h => getD_up hun (HV.out.q8 (Uz h))⟩⟩
  ·simp at ho
   subst ho
   have H6 := Lib.hid (hall { on := 6, ground := .data } (by simp) (by decide))
   clear hall hi
   have e0 := HV.out.k6 H6.out
   subst e0
   refine wpOp_step rfl (fun K' hK' => ?_)
   have HK := Lib.hid hK'
   clear hK'
   go_simp
   refine (HCAT.out _ _ (HV.out.t6 H6.out) HV.out.g).mono ?_
   rintro e wn ⟨v7, rfl, ho, bn⟩
   have hg := HV.out.g.below bn
   exact HK.out _ _ ⟨by simp [HJ.out.sz], ⟨_, _, _, _, _, _, _, _, _, _, rfl, Um HV.out.k0, Um HV.out.k1, Um HV.out.k2, Um HV.out.k3, Um HV.out.k4, Um HV.out.k5, Um HV.out.k6, hg, fun h => (bn.block _ (Array.getElem?_eq_some_iff.1 (HV.out.t6 (Uz h))).1).trans (HV.out.t6 (Uz h)), fun _ => ⟨_, ho, HV.out.g.be.size, bn.size, HV.out.g.bx.lt⟩, fun h => (not_on hoff (HV.out.q8 (Uz h))).elim, fun _ => getD_up hun H6.out, fun h => getD_up hun (HV.out.q8 (Uz h))⟩⟩
  ·simp at ho
   subst ho
   have H7 := Lib.hid (hall { on := 7, ground := .data } (by simp) (by decide))
   clear hall hi
   refine wpOp_step rfl (fun K' hK' => ?_)
   have HK := Lib.hid hK'
   clear hK'
   go_simp
   exact HK.out _ _ ⟨by simp [HJ.out.sz], ⟨_, _, _, _, _, _, _, _, _, _, rfl, Um HV.out.k0, Um HV.out.k1, Um HV.out.k2, Um HV.out.k3, Um HV.out.k4, Um HV.out.k5, Um HV.out.k6, HV.out.g, Um HV.out.t6, Um HV.out.r7, fun _ => HV.out.r7 H7.out, fun h => getD_up hun (HV.out.q7 (Uz h)), fun _ => getD_up hun H7.out⟩⟩
end Go.Proofs.YthmfkgcoocikjaaGreatDoor
