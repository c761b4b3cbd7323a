/-
  The walk of tranchelaw11.BondFlows. (Printed by gen_law32.py.)
-/
import Derived.Test.YteennkgpeiafaaaGreatDoorE37
set_option linter.unusedVariables false
set_option linter.unusedSimpArgs false
set_option maxHeartbeats 16000000
set_option maxRecDepth 100000
namespace Go.Proofs.YteennkgpeiafaaaGreatDoor
open Go.RowKit Tr Go.Shelf
theorem rest_drop {Ls : List (Int × Rat)} {d : Int} {k : Nat} (hlo : ∀ j x, j < k → Ls[j]? = some x → x.1 ≤ d) (hhi : ∀ x, Ls[k]? = some x → d < x.1) (ha : Ls.Pairwise (fun a b => a.1 < b.1)) : Ls.filter (fun f => !decide (f.1 ≤ d)) = Ls.drop k := by
 conv => lhs; rw [← List.take_append_drop k Ls]
 rw [List.filter_append]
 have e1 : (Ls.take k).filter (fun f => !decide (f.1 ≤ d)) = [] := by
  refine List.filter_eq_nil_iff.2 fun x hx => ?_
  obtain ⟨j, hj, rfl⟩ := List.mem_take_iff_getElem.1 hx
  have := hlo j _ (by omega) (List.getElem?_eq_getElem (by omega))
  rw [decide_eq_true this]
  decide
 have e2 : (Ls.drop k).filter (fun f => !decide (f.1 ≤ d)) = Ls.drop k := by
  refine List.filter_eq_self.2 fun x hx => ?_
  obtain ⟨j, hj⟩ := List.getElem?_of_mem hx
  rw [List.getElem?_drop] at hj
  have hkl : k + j < Ls.length := (List.getElem?_eq_some_iff.1 hj).1
  have h0 : Ls[k]? = some Ls[k] := List.getElem?_eq_getElem (by omega)
  have h1 := hhi _ h0
  have h2 : Ls[k].1 ≤ x.1 := by
   rcases Nat.eq_zero_or_pos j with h | h
   ·subst h
    have e : some Ls[k] = some x := h0.symm.trans hj
    injection e with e
    rw [e]
    exact Int.le_refl _
   ·have := List.pairwise_iff_getElem.1 ha k (k + j) (by omega) hkl (by omega)
    have e := (List.getElem?_eq_some_iff.1 hj).2
    rw [e] at this
    omega
  rw [decide_eq_false (by omega)]
  rfl
 rw [e1, e2, List.nil_append]
theorem sign_le {q : Rat} (h : 0 < q) : decide (cmpI q.num 0 ≤ 0) = false := decide_eq_false (by have := (cmpz q).2.1.2 h; omega)
def BF (w : World) (bl : List (Nat × Obj)) (n11 n12 : Nat) (p q : Rat) (W : World) : Prop := BX w bl W ∧ W.heap[n11]? = some (fobj p) ∧ W.heap[n12]? = some (fobj q)
theorem BF.below {w : World} {bl : List (Nat × Obj)} {n11 n12 : Nat} {p q : Rat} {W W' : World} (h : BF w bl n11 n12 p q W) (hb : Below W.heap.size W W') : BF w bl n11 n12 p q W' := ⟨h.1.below hb, bkeep hb h.2.1, bkeep hb h.2.2⟩
theorem BX.two {w : World} {bl : List (Nat × Obj)} {W : World} (h : BX w bl W) (p q : Rat) : BF w bl W.heap.size (W.heap.size + 1) p q ((W.alloc (fobj p)).alloc (fobj q)).drew ∧ BF w bl (W.heap.size + 1) W.heap.size p q ((W.alloc (fobj q)).alloc (fobj p)).drew := by
 obtain ⟨W0, e, b, _, k0, k1⟩ := box2 W (fobj p) (fobj q)
 obtain ⟨W1, e', b', _, j0, j1⟩ := box2 W (fobj q) (fobj p)
 rw [← e, ← e']
 have h0 := h.below b
 have h1 := h.below b'
 exact ⟨⟨⟨h0.1.drew, h0.2⟩, k0, k1⟩, ⟨⟨h1.1.drew, h1.2⟩, j1, j0⟩⟩
structure ZAV (w : World) (bl : List (Nat × Obj)) (ad : Addr) (F cc nb k : Nat) (fd pd z : Int) (fq : Rat)  (L : Array Bool) (W : World) (s80 s81 s82 s83 s84 s85 s86 s87 s88 s89 s90 s91 s92 s93 s94 s95 s96 s97 s98 : Value) : Prop where
 k0 : L.getD 0 false = true → s80 = .int .i64 0
 k1 : L.getD 1 false = true → s81 = .bool false
 k2 : L.getD 2 false = true → s82 = .bool false
 k12 : L.getD 12 false = true → s92 = .bool false
 k13 : L.getD 13 false = true → s93 = .bool false
 k14 : L.getD 14 false = true → s94 = .pointer (some ⟨nb, 1, none⟩)
 k15 : L.getD 15 false = true → s95 = .agg #[.string (I fq.num), .string (dn fq)]
 k16 : L.getD 16 false = true → s96 = .int .i64 z
 k17 : L.getD 17 false = true → s97 = .bool false
 k18 : L.getD 18 false = true → s98 = .bool false
 bx : BX w ((nb, .cells #[.int .i64 fd, .string (I fq.num), .string (dn fq)] 44 (0, 0)) :: bl) W
structure ZAJ (w : World) (bl : List (Nat × Obj)) (ad : Addr) (F cc nb k : Nat) (fd pd z : Int) (fq : Rat) (x0 x1 x2 x3 x4 x6 x7 x8 x9 x10 x11 x12 x15 x16 x17 x18 x19 x20 x21 x22 x23 x24 x25 x26 x27 x28 x29 x30 x31 x32 x33 x34 x35 x36 x37 x38 x39 x40 x41 x42 x43 x44 x45 x46 x47 x48 x49 x50 x51 x52 x53 x54 x55 x56 x57 x58 x59 x60 x61 x62 x63 x64 x65 x66 x67 x68 x69 x70 x71 x72 x73 x74 x75 x76 x77 x78 x79 x99 x100 x101 x102 x103 x104 x105 x106 x107 x108 x109 x110 x111 x112 x113 x114 x115 x116 x117 x118 x119 x120 x121 x122 x123 x124 x125 x126 x127 x128 x129 x130 x131 x132 x133 x134 x135 x136 x137 x138 x139 x140 x141 x142 x143 x144 x145 x146 x147 x148 x149 x150 x151 x152 x153 x154 x155 x156 x157 x158 x159 x160 x161 x162 x163 x164 x165 x166 x167 x168 x169 : Value) (L : Array Bool) (a : Act) (W : World) : Prop where
 sz : L.size = 19
 fr : ∃ s80 s81 s82 s83 s84 s85 s86 s87 s88 s89 s90 s91 s92 s93 s94 s95 s96 s97 s98 : Value, a = { tmps := #[x0, x1, x2, x3, x4, .slice (some ad) F cc, x6, x7, x8, x9, x10, x11, x12, .int .i64 0, .pointer (some ⟨nb, 0, none⟩), x15, x16, x17, x18, x19, x20, x21, x22, x23, x24, x25, x26, x27, x28, x29, x30, x31, x32, x33, x34, x35, x36, x37, x38, x39, x40, x41, x42, x43, x44, x45, x46, x47, x48, x49, x50, x51, x52, x53, x54, x55, x56, x57, x58, x59, x60, x61, x62, x63, x64, x65, x66, x67, x68, x69, x70, x71, x72, x73, x74, x75, x76, x77, x78, x79, s80, s81, s82, s83, s84, s85, s86, s87, s88, s89, s90, s91, s92, s93, s94, s95, s96, s97, s98, x99, x100, x101, x102, x103, x104, x105, x106, x107, x108, x109, x110, x111, x112, x113, x114, x115, x116, x117, x118, x119, x120, x121, x122, x123, x124, x125, x126, x127, x128, x129, x130, x131, x132, x133, x134, x135, x136, x137, x138, x139, x140, x141, x142, x143, x144, x145, x146, x147, x148, x149, x150, x151, x152, x153, x154, x155, x156, x157, x158, x159, x160, x161, x162, x163, x164, x165, x166, x167, x168, x169], defers := [] } ∧ ZAV w bl ad F cc nb k fd pd z fq  L W s80 s81 s82 s83 s84 s85 s86 s87 s88 s89 s90 s91 s92 s93 s94 s95 s96 s97 s98
structure ZBV (w : World) (bl : List (Nat × Obj)) (ad : Addr) (F cc nb k : Nat) (fd pd z : Int) (fq : Rat)  (L : Array Bool) (W : World) (s80 s81 s82 s83 s84 s85 s86 s87 s88 s89 s90 s91 s92 s93 s94 s95 s96 s97 s98 : Value) : Prop where
 k0 : L.getD 0 false = true → s80 = .int .i64 (k : Int)
 k1 : L.getD 1 false = true → s81 = .bool true
 k2 : L.getD 2 false = true → s82 = .bool true
 k3 : L.getD 3 false = true → s83 = .pointer (some ⟨nb, 0, none⟩)
 k4 : L.getD 4 false = true → s84 = .int .i64 fd
 k5 : L.getD 5 false = true → s85 = .slice (some ad) F cc
 k6 : L.getD 6 false = true → s86 = .int .i64 (k : Int)
 k7 : L.getD 7 false = true → s87 = .int .i64 ((k - 1 : Nat) : Int)
 k8 : L.getD 8 false = true → s88 = .pointer (some (ad.add ((k - 1) * 3)))
 k9 : L.getD 9 false = true → s89 = .pointer (some (ad.add ((k - 1) * 3)))
 k10 : L.getD 10 false = true → s90 = .int .i64 pd
 k11 : L.getD 11 false = true → s91 = .bool false
 k12 : L.getD 12 false = true → s92 = .bool false
 k13 : L.getD 13 false = true → s93 = .bool false
 k14 : L.getD 14 false = true → s94 = .pointer (some ⟨nb, 1, none⟩)
 k15 : L.getD 15 false = true → s95 = .agg #[.string (I fq.num), .string (dn fq)]
 k16 : L.getD 16 false = true → s96 = .int .i64 z
 k17 : L.getD 17 false = true → s97 = .bool false
 k18 : L.getD 18 false = true → s98 = .bool false
 bx : BX w ((nb, .cells #[.int .i64 fd, .string (I fq.num), .string (dn fq)] 44 (0, 0)) :: bl) W
structure ZBJ (w : World) (bl : List (Nat × Obj)) (ad : Addr) (F cc nb k : Nat) (fd pd z : Int) (fq : Rat) (x0 x1 x2 x3 x4 x6 x7 x8 x9 x10 x11 x12 x15 x16 x17 x18 x19 x20 x21 x22 x23 x24 x25 x26 x27 x28 x29 x30 x31 x32 x33 x34 x35 x36 x37 x38 x39 x40 x41 x42 x43 x44 x45 x46 x47 x48 x49 x50 x51 x52 x53 x54 x55 x56 x57 x58 x59 x60 x61 x62 x63 x64 x65 x66 x67 x68 x69 x70 x71 x72 x73 x74 x75 x76 x77 x78 x79 x99 x100 x101 x102 x103 x104 x105 x106 x107 x108 x109 x110 x111 x112 x113 x114 x115 x116 x117 x118 x119 x120 x121 x122 x123 x124 x125 x126 x127 x128 x129 x130 x131 x132 x133 x134 x135 x136 x137 x138 x139 x140 x141 x142 x143 x144 x145 x146 x147 x148 x149 x150 x151 x152 x153 x154 x155 x156 x157 x158 x159 x160 x161 x162 x163 x164 x165 x166 x167 x168 x169 : Value) (L : Array Bool) (a : Act) (W : World) : Prop where
 sz : L.size = 19
 fr : ∃ s80 s81 s82 s83 s84 s85 s86 s87 s88 s89 s90 s91 s92 s93 s94 s95 s96 s97 s98 : Value, a = { tmps := #[x0, x1, x2, x3, x4, .slice (some ad) F cc, x6, x7, x8, x9, x10, x11, x12, .int .i64 (k : Int), .pointer (some ⟨nb, 0, none⟩), x15, x16, x17, x18, x19, x20, x21, x22, x23, x24, x25, x26, x27, x28, x29, x30, x31, x32, x33, x34, x35, x36, x37, x38, x39, x40, x41, x42, x43, x44, x45, x46, x47, x48, x49, x50, x51, x52, x53, x54, x55, x56, x57, x58, x59, x60, x61, x62, x63, x64, x65, x66, x67, x68, x69, x70, x71, x72, x73, x74, x75, x76, x77, x78, x79, s80, s81, s82, s83, s84, s85, s86, s87, s88, s89, s90, s91, s92, s93, s94, s95, s96, s97, s98, x99, x100, x101, x102, x103, x104, x105, x106, x107, x108, x109, x110, x111, x112, x113, x114, x115, x116, x117, x118, x119, x120, x121, x122, x123, x124, x125, x126, x127, x128, x129, x130, x131, x132, x133, x134, x135, x136, x137, x138, x139, x140, x141, x142, x143, x144, x145, x146, x147, x148, x149, x150, x151, x152, x153, x154, x155, x156, x157, x158, x159, x160, x161, x162, x163, x164, x165, x166, x167, x168, x169], defers := [] } ∧ ZBV w bl ad F cc nb k fd pd z fq  L W s80 s81 s82 s83 s84 s85 s86 s87 s88 s89 s90 s91 s92 s93 s94 s95 s96 s97 s98
theorem BondFlows_any (i : Inst) (d : Int) (w : World) (ht : Tabs w) :
 Calls Tryz.prog 7 #[i.enc, .int .i64 d] w fun e w' => e = .returned (.bool true) ∧ Below w.heap.size w w' := by
 have HT := hI ht
 obtain ⟨W0, hW0, hB0, hz, hk⟩ := ibox i w
 have HG0 : Hid (BX w [(w.heap.size, .cells i.cells 27 (0, 0))] W0) := ⟨hB0, fun x hx => by
  rcases List.mem_cons.1 hx with rfl | hx
  ·exact hk
  ·cases hx⟩
 have c0 := Lib.cell_of_heap (hk) 0
 have c1 := Lib.cell_of_heap (hk) 1
 have c2 := Lib.cell_of_heap (hk) 2
 have c3 := Lib.cell_of_heap (hk) 3
 have c4 := Lib.cell_of_heap (hk) 4
 have c5 := Lib.cell_of_heap (hk) 5
 have c6 := Lib.cell_of_heap (hk) 6
 have c7 := Lib.cell_of_heap (hk) 7
 have c8 := Lib.cell_of_heap (hk) 8
 have c9 := Lib.cell_of_heap (hk) 9
 have c10 := Lib.cell_of_heap (hk) 10
 have c11 := Lib.cell_of_heap (hk) 11
 have c12 := Lib.cell_of_heap (hk) 12
 have c13 := Lib.cell_of_heap (hk) 13
 have c14 := Lib.cell_of_heap (hk) 14
 simp [Inst.cells] at c0 c1 c2 c3 c4 c5 c6 c7 c8 c9 c10 c11 c12 c13 c14
 clear hB0 hz hk ht
 unfold Inst.enc Inst.cells at *
 go_enter Tryz.func7, Tryz.ntmps7
 go_wp2_with fail
 refine (fine11_any i _).mono ?_
 rintro e w1 ⟨g, rfl, hg, x1⟩
 have HG1 := hI (HG0.out.below x1)
 clear x1 HG0 hW0 c0 c1 c2 c3 c4 c5 c6 c7 c8 c9 c10 c11 c12 c13 c14
 cases g
 case false =>
  clear hg
  go_wp2_with fail
  refine (awake11_any _ (HT.out.below HG1.out.1)).mono ?_
  rintro e wz ⟨rfl, xz⟩
  have HBZ := hI (HG1.out.below xz).1
  clear xz
  go_wp2_with fail
  go_ret
  exact ⟨rfl, HBZ.out⟩
 obtain ⟨htiny, hbd, hcut⟩ := hg rfl
 clear hg
 have c0 := Lib.cell_of_heap (HG1.out.get 0 rfl) 0
 have c1 := Lib.cell_of_heap (HG1.out.get 0 rfl) 1
 have c2 := Lib.cell_of_heap (HG1.out.get 0 rfl) 2
 have c3 := Lib.cell_of_heap (HG1.out.get 0 rfl) 3
 have c4 := Lib.cell_of_heap (HG1.out.get 0 rfl) 4
 have c5 := Lib.cell_of_heap (HG1.out.get 0 rfl) 5
 have c6 := Lib.cell_of_heap (HG1.out.get 0 rfl) 6
 have c7 := Lib.cell_of_heap (HG1.out.get 0 rfl) 7
 have c8 := Lib.cell_of_heap (HG1.out.get 0 rfl) 8
 have c9 := Lib.cell_of_heap (HG1.out.get 0 rfl) 9
 have c10 := Lib.cell_of_heap (HG1.out.get 0 rfl) 10
 have c11 := Lib.cell_of_heap (HG1.out.get 0 rfl) 11
 have c12 := Lib.cell_of_heap (HG1.out.get 0 rfl) 12
 have c13 := Lib.cell_of_heap (HG1.out.get 0 rfl) 13
 have c14 := Lib.cell_of_heap (HG1.out.get 0 rfl) 14
 simp [Inst.cells] at c0 c1 c2 c3 c4 c5 c6 c7 c8 c9 c10 c11 c12 c13 c14
 have HH := hI hbd
 have HFEW : Hid (Few i) := by show (cuts i.issued i.matures i.months).length ≤ 399; omega
 have HL15 : Hid ((perL i).length ≤ 15) := by
  have := pers_len i.issued i.matures i.months
  show (pers i.issued i.matures i.months).length ≤ 15
  omega
 clear htiny hbd hcut
 by_cases h1 : d < -25567
 ·have t1 : decide (d < -25567) = true := decide_eq_true h1
  clear h1
  go_wp2_with fail
  refine (awake11_any _ (HT.out.below HG1.out.1)).mono ?_
  rintro e wz ⟨rfl, xz⟩
  have HBZ := hI (HG1.out.below xz).1
  clear xz
  go_wp2_with fail
  go_ret
  exact ⟨rfl, HBZ.out⟩
 have t1 : decide (d < -25567) = false := decide_eq_false h1
 by_cases h2 : 84005 < d
 ·have t2 : decide (84005 < d) = true := decide_eq_true h2
  clear h1 h2
  go_wp2_with fail
  refine (awake11_any _ (HT.out.below HG1.out.1)).mono ?_
  rintro e wz ⟨rfl, xz⟩
  have HBZ := hI (HG1.out.below xz).1
  clear xz
  go_wp2_with fail
  go_ret
  exact ⟨rfl, HBZ.out⟩
 have t2 : decide (84005 < d) = false := decide_eq_false h2
 have HOD : Hid (okDay d) := ⟨by omega, by omega⟩
 clear h1 h2
 obtain ⟨Ls, hL⟩ : ∃ Ls, flowsL i = Ls := ⟨_, rfl⟩
 obtain ⟨F, hF⟩ : ∃ F, Ls.length = F := ⟨_, rfl⟩
 obtain ⟨N, hN⟩ : ∃ N, (perL i).length = N := ⟨_, rfl⟩
 obtain ⟨R, hR⟩ : ∃ R, restL i d Ls = R := ⟨_, rfl⟩
 obtain ⟨M, hM⟩ : ∃ M, R.length = M := ⟨_, rfl⟩
 have hFN : F ≤ N := by have := flows_len i; rw [hL, hF, hN] at this; exact this
 have hN15 : N ≤ 15 := by have := HL15.out; rw [hN] at this; exact this
 have hF0 : 0 < F := by have := flows_ne HH.out; rw [hL] at this; rw [← hF]; exact List.length_pos_iff.2 this
 have HFL := hI (fun W (hW : Tabs W) => bFlows_few HH.out HFEW.out W hW)
 have HPE := hI (fun W (hW : Tabs W) => bPer_few HH.out HFEW.out W hW)
 have HRS := hI (fun W (hW : Tabs W) => bRest_few HH.out HFEW.out HOD.out W hW)
 rw [hL, hF] at HFL
 rw [hN] at HPE
 rw [hL, hR, hM] at HRS
 have HASC : Hid (Ls.Pairwise (fun a b => a.1 < b.1)) := hL ▸ flows_asc HH.out
 have HPOS : Hid (∀ f ∈ Ls, 0 < f.2) := fun f hf => flows_pos HH.out (by rw [hL]; exact hf)
 have HLAST : Hid (∃ q : Rat, Ls[F - 1]? = some (i.matures, q) ∧ fv i.fn i.fd ≤ q ∧ BdQ q 80) := by
  have h1 := flows_last HH.out
  rw [hL, List.getLast?_eq_getElem?, hF] at h1
  have h2 := coupQ_nn HH.out (k := (perL i).length - 1) (by omega)
  refine ⟨_, h1, by grind, ?_⟩
  have h3 := flows_bd HH.out _ (List.mem_map.2 ⟨_, by rw [hL]; exact List.mem_of_getElem? h1, rfl⟩)
  exact h3
 obtain ⟨cl, hcl⟩ : ∃ cl, (List.range N).map (coupQ i) = cl := ⟨_, rfl⟩
 have hcll : cl.length = N := by rw [← hcl]; simp
 have HCL : Hid (∀ k, k < N → cl[k]? = some (coupQ i k)) := fun k hk => by rw [← hcl, List.getElem?_map, List.getElem?_range hk]; rfl
 obtain ⟨qf, hqf⟩ : ∃ q, fv i.fn i.fd = q := ⟨_, rfl⟩
 have HSUM : Hid (rsum (Ls.map Prod.snd) = qf + rsum cl) := by
  have h1 := flows_sum i
  rw [hL, amt_sum, hqf, hN, hcl] at h1
  exact h1
 have HFB : Hid (∀ x ∈ Ls.map Prod.snd, BdQ x 80) := hL ▸ flows_bd HH.out
 have HCB : Hid (∀ x ∈ cl, BdQ x 59) := by have h := coups_bd HH.out; rw [hN, hcl] at h; exact h
 have HQF : Hid (BdQ qf 20) := by have h := fv_bd i.fn i.fd (k := 20) HH.out.f1 (by have := HH.out.f2; omega); rw [hqf] at h; exact h
 have HFE : Hid (.agg #[.string i.fn, .string i.fd] = fenc qf ∧ i.fn = I qf.num ∧ i.fd = dn qf) := by
  have h := HH.out.fQ
  unfold CanQ at h
  rw [hqf] at h
  refine ⟨?_, h⟩
  unfold fenc
  rw [← h.1, ← h.2]
 rw [hqf] at HLAST
 have HCO : Hid (∀ k : Nat, k < N → ∀ W, Tabs W → Calls Tryz.prog 27 #[i.enc, .int .i64 (k : Int)] W fun e w' => e = .returned (.tuple #[.agg #[.string (I (coupQ i k).num), .string (dn (coupQ i k))], .int .i64 0]) ∧ Below W.heap.size W w') := fun k hk W hW => bCoup_few HH.out HFEW.out (by rw [hN]; exact hk) W hW
 have HR : Hid (restL i d Ls = R) := hR
 have HML : Hid (R.length = M) := hM
 have HFF : Hid (Ls.length = F) := hF
 have HCLL : Hid (cl.length = N) := hcll
 unfold Inst.enc Inst.cells at HFL HPE HRS HCO
 clear hL hF hN hR hM hcl hcll hqf HL15 HFEW
 go_wp2_with fail
 refine (HFL.out _ (HT.out.below HG1.out.1)).mono ?_
 rintro e w2 ⟨⟨gl, cc, sp, rfl, hcc, hgb, hgr⟩, x2⟩
 obtain ⟨ol, hol⟩ : ∃ ob : Obj, ob = .cells (flV Ls ++ sp).toArray 44 (0, 0) := ⟨_, rfl⟩
 rw [← hol] at hgr
 have HG2 : Hid (BX w [(gl, ol), (w.heap.size, .cells i.cells 27 (0, 0))] w2) := ⟨(HG1.out.below x2).1, fun x hx => by
  rcases List.mem_cons.1 hx with rfl | hx
  ·exact hgr
  ·exact (HG1.out.below x2).2 x hx⟩
 clear x2 HG1 HFL hgb hgr t1 t2 c0 c1 c2 c3 c4 c5 c6 c7 c8 c9 c10 c11 c12 c13 c14
 have c0 := Lib.cell_of_heap (HG2.out.get 1 rfl) 0
 have c1 := Lib.cell_of_heap (HG2.out.get 1 rfl) 1
 have c2 := Lib.cell_of_heap (HG2.out.get 1 rfl) 2
 have c3 := Lib.cell_of_heap (HG2.out.get 1 rfl) 3
 have c4 := Lib.cell_of_heap (HG2.out.get 1 rfl) 4
 have c5 := Lib.cell_of_heap (HG2.out.get 1 rfl) 5
 have c6 := Lib.cell_of_heap (HG2.out.get 1 rfl) 6
 have c7 := Lib.cell_of_heap (HG2.out.get 1 rfl) 7
 have c8 := Lib.cell_of_heap (HG2.out.get 1 rfl) 8
 have c9 := Lib.cell_of_heap (HG2.out.get 1 rfl) 9
 have c10 := Lib.cell_of_heap (HG2.out.get 1 rfl) 10
 have c11 := Lib.cell_of_heap (HG2.out.get 1 rfl) 11
 have c12 := Lib.cell_of_heap (HG2.out.get 1 rfl) 12
 have c13 := Lib.cell_of_heap (HG2.out.get 1 rfl) 13
 have c14 := Lib.cell_of_heap (HG2.out.get 1 rfl) 14
 simp [Inst.cells] at c0 c1 c2 c3 c4 c5 c6 c7 c8 c9 c10 c11 c12 c13 c14
 go_wp2_with fail
 refine (HPE.out _ (HT.out.below HG2.out.1)).mono ?_
 rintro e w3 ⟨⟨adp, capp, curp, rfl, _, _, _, _⟩, x3⟩
 have HG3 := hI (HG2.out.below x3)
 clear x3 HG2 HPE c0 c1 c2 c3 c4 c5 c6 c7 c8 c9 c10 c11 c12 c13 c14
 have c0 := Lib.cell_of_heap (HG3.out.get 1 rfl) 0
 have c1 := Lib.cell_of_heap (HG3.out.get 1 rfl) 1
 have c2 := Lib.cell_of_heap (HG3.out.get 1 rfl) 2
 have c3 := Lib.cell_of_heap (HG3.out.get 1 rfl) 3
 have c4 := Lib.cell_of_heap (HG3.out.get 1 rfl) 4
 have c5 := Lib.cell_of_heap (HG3.out.get 1 rfl) 5
 have c6 := Lib.cell_of_heap (HG3.out.get 1 rfl) 6
 have c7 := Lib.cell_of_heap (HG3.out.get 1 rfl) 7
 have c8 := Lib.cell_of_heap (HG3.out.get 1 rfl) 8
 have c9 := Lib.cell_of_heap (HG3.out.get 1 rfl) 9
 have c10 := Lib.cell_of_heap (HG3.out.get 1 rfl) 10
 have c11 := Lib.cell_of_heap (HG3.out.get 1 rfl) 11
 have c12 := Lib.cell_of_heap (HG3.out.get 1 rfl) 12
 have c13 := Lib.cell_of_heap (HG3.out.get 1 rfl) 13
 have c14 := Lib.cell_of_heap (HG3.out.get 1 rfl) 14
 simp [Inst.cells] at c0 c1 c2 c3 c4 c5 c6 c7 c8 c9 c10 c11 c12 c13 c14
 go_wp2_with fail
 refine (HRS.out _ (HT.out.below HG3.out.1)).mono ?_
 rintro e w4 ⟨⟨gr, cr, sr, hgb, rfl, hgr⟩, x4⟩
 obtain ⟨orr, hor⟩ : ∃ ob : Obj, ob = .cells (flV R ++ sr).toArray 44 (0, 0) := ⟨_, rfl⟩
 rw [← hor] at hgr
 have HG4 : Hid (BX w [(gr, orr), (gl, ol), (w.heap.size, .cells i.cells 27 (0, 0))] w4) := ⟨(HG3.out.below x4).1, fun x hx => by
  rcases List.mem_cons.1 hx with rfl | hx
  ·exact hgr
  ·exact (HG3.out.below x4).2 x hx⟩
 have t3 : decide ((N : Int) < (F : Int)) = false := decide_eq_false (by omega)
 have t4 : ((F : Int) == 0) = false := beq_eq_false_iff_ne.2 (by omega)
 have t5 : (F == 0) = false := beq_eq_false_iff_ne.2 (by omega)
 have t6 : decide (N < F) = false := decide_eq_false (by omega)
 obtain ⟨ad, had⟩ : ∃ ad : Addr, ad = ⟨gl, 0, none⟩ := ⟨_, rfl⟩
 have HOL := hI hol
 have HOR := hI hor
 have HAD := hI had
 have HAT : Hid (∀ (W : World) (k : Nat) (x : Int × Rat), W.heap[gl]? = some ol → Ls[k]? = some x → W.cell? (ad.add (k * 3)) = some (.int .i64 x.1) ∧ W.cell? ⟨(ad.add (k * 3)).block, (ad.add (k * 3)).off + 1, none⟩ = some (.string (I x.2.num)) ∧ W.cell? ⟨(ad.add (k * 3)).block, (ad.add (k * 3)).off + 2, none⟩ = some (.string (dn x.2))) := fun W k x hW hx => by
  rw [hol] at hW
  have hs : FRow W gl sp Ls W := ⟨hW, ⟨rfl, rfl, rfl, Nat.le_refl _, fun _ _ _ => rfl⟩, (Array.getElem?_eq_some_iff.1 hW).1⟩
  exact hs.at' had hx
 rw [← had]
 clear x4 HG3 HRS hgb hgr hol hor had c0 c1 c2 c3 c4 c5 c6 c7 c8 c9 c10 c11 c12 c13 c14
 have c0 := Lib.cell_of_heap (HG4.out.get 2 rfl) 0
 have c1 := Lib.cell_of_heap (HG4.out.get 2 rfl) 1
 have c2 := Lib.cell_of_heap (HG4.out.get 2 rfl) 2
 have c3 := Lib.cell_of_heap (HG4.out.get 2 rfl) 3
 have c4 := Lib.cell_of_heap (HG4.out.get 2 rfl) 4
 have c5 := Lib.cell_of_heap (HG4.out.get 2 rfl) 5
 have c6 := Lib.cell_of_heap (HG4.out.get 2 rfl) 6
 have c7 := Lib.cell_of_heap (HG4.out.get 2 rfl) 7
 have c8 := Lib.cell_of_heap (HG4.out.get 2 rfl) 8
 have c9 := Lib.cell_of_heap (HG4.out.get 2 rfl) 9
 have c10 := Lib.cell_of_heap (HG4.out.get 2 rfl) 10
 have c11 := Lib.cell_of_heap (HG4.out.get 2 rfl) 11
 have c12 := Lib.cell_of_heap (HG4.out.get 2 rfl) 12
 have c13 := Lib.cell_of_heap (HG4.out.get 2 rfl) 13
 have c14 := Lib.cell_of_heap (HG4.out.get 2 rfl) 14
 simp [Inst.cells] at c0 c1 c2 c3 c4 c5 c6 c7 c8 c9 c10 c11 c12 c13 c14
 have lt1 : w.heap.size < w4.heap.size := HG4.out.lt 2 rfl
 have ne1 : w4.heap.size ≠ w.heap.size := by omega
 have ne2 : w4.heap.size + 1 ≠ w.heap.size := by omega
 go_upto_region 8 with fail
 go_cut [11, 12] (fun v11 v12 wx => ∃ n11 n12, v11 = .pointer (some ⟨n11, 0, none⟩) ∧ v12 = .pointer (some ⟨n12, 0, none⟩) ∧ n11 ≠ n12 ∧ w4.heap.size ≤ n11 ∧ w4.heap.size ≤ n12 ∧ BF w [(gr, orr), (gl, ol), (w.heap.size, .cells i.cells 27 (0, 0))] n11 n12 0 qf wx)
 case first =>
  as_aux_lemma =>
   go_region
   all_goals go_wp2_with fail
   all_goals go_meet
   ·have h := (HG4.out.two 0 qf).1
    rw [fobj_zero] at h
    unfold fobj at h
    rw [← HFE.out.2.1, ← HFE.out.2.2] at h
    exact ⟨_, _, rfl, rfl, by omega, Nat.le_refl _, by omega, h⟩
   ·have h := (HG4.out.two 0 qf).2
    rw [fobj_zero] at h
    unfold fobj at h
    rw [← HFE.out.2.1, ← HFE.out.2.2] at h
    exact ⟨_, _, rfl, rfl, by omega, by omega, Nat.le_refl _, h⟩
 case rest =>
  obtain ⟨n11, n12, rfl, rfl, hn, hn1, hn2, hbf⟩ := hcut
  have HBF := hI hbf
  have HNN : Hid (∀ x, x ∈ [(gr, orr), (gl, ol), (w.heap.size, .cells i.cells 27 (0, 0))] → x.1 ≠ n11 ∧ x.1 ≠ n12) := fun x hx => by
   have := (Array.getElem?_eq_some_iff.1 (HG4.out.2 x hx)).1
   constructor <;> omega
  have HWN : Hid (w.heap.size ≤ n11 ∧ w.heap.size ≤ n12) := ⟨Nat.le_trans HG4.out.1.size hn1, Nat.le_trans HG4.out.1.size hn2⟩
  clear hbf HG4 hn1 hn2 t3 t4 t5 t6 c0 c1 c2 c3 c4 c5 c6 c7 c8 c9 c10 c11 c12 c13 c14
  go_wp2_with fail
  go_loopw [13, 14, 75] (fun _ _ v wr => ∃ k : Nat, v = .int .i64 (k : Int) ∧ k ≤ F ∧ BF w [(gr, orr), (gl, ol), (w.heap.size, .cells i.cells 27 (0, 0))] n11 n12 (rsum ((Ls.take k).map Prod.snd)) qf wr) (fun _ _ v _ => F - (intOf v).toNat)
  case atStart => exact ⟨0, rfl, by omega, HBF.out⟩
  case round =>
   obtain ⟨k, rfl, hk, hbf⟩ := hrel
   have HB := hI hbf
   clear hbf HBF
   rcases Nat.lt_or_ge k F with hlt | hge
   ·as_aux_lemma =>
    obtain ⟨⟨fd, fq⟩, hx⟩ : ∃ x, Ls[k]? = some x := ⟨_, List.getElem?_eq_getElem (by rw [HFF.out]; exact hlt)⟩
    have hxm : (Ls.map Prod.snd)[k]? = some fq := by rw [List.getElem?_map, hx]; rfl
    have hq80 := HFB.out fq (List.mem_of_getElem? hxm)
    have hst := rsum_take hxm
    rw [← List.map_take, ← List.map_take] at hst
    obtain ⟨sk, hsk⟩ : ∃ q, rsum ((Ls.take k).map Prod.snd) = q := ⟨_, rfl⟩
    obtain ⟨sn, hsn⟩ : ∃ q, sk + fq = q := ⟨_, rfl⟩
    rw [hsk, hsn] at hst
    have hbk : BdQ sk 3000 := by
     rw [← hsk]
     refine (rsum_bd _ 80 (fun x hx => HFB.out x ?_)).mono ?_
     ·rw [List.map_take] at hx; exact List.mem_of_mem_take hx
     ·rw [List.length_map, List.length_take]; omega
    have had' := fun W (hW : Tabs W) => fAddQ hbk hq80 (by omega) (by omega) W hW
    rw [hsn] at had'
    unfold fenc at had'
    have HADD := hI had'
    have HSN := hI hst
    have hcx : decide ((k : Int) < (F : Int)) = true := by simp; omega
    have hki : (k : Int) < (F : Int) := by omega
    have hb0 := HB.out
    rw [hsk] at hb0
    obtain ⟨c0, c1, c2⟩ := HAT.out _ k _ (hb0.1.get 1 rfl) hx
    simp only at c0 c1 c2
    obtain ⟨z, hz⟩ : ∃ z, cmpI fq.num 0 = z := ⟨_, rfl⟩
    have hzs := sign_le (HPOS.out _ (List.mem_of_getElem? hx))
    simp only at hzs
    rw [hz] at hzs
    have TZ := hI hzs
    have hsg := fun W (hW : Tabs W) => sign11_any hq80 (by omega) W hW
    rw [hz] at hsg
    unfold fenc at hsg
    have HSG0 := hI hsg
    have HX := hI hx
    obtain ⟨W5, hW5⟩ : ∃ W5, wr.alloc (.cells #[.int .i64 fd, .string (I fq.num), .string (dn fq)] 44) = W5 := ⟨_, rfl⟩
    have HG5 : Hid (BX w ((wr.heap.size, .cells #[.int .i64 fd, .string (I fq.num), .string (dn fq)] 44 (0, 0)) :: (n11, fobj sk) :: (n12, fobj qf) :: [(gr, orr), (gl, ol), (w.heap.size, .cells i.cells 27 (0, 0))]) W5) := by
     show BX _ _ _; rw [← hW5]
     refine BX.push ⟨hb0.1.1, fun x hx => ?_⟩ _
     rcases List.mem_cons.1 hx with rfl | hx
     ·exact hb0.2.1
     ·rcases List.mem_cons.1 hx with rfl | hx
      ·exact hb0.2.2
      ·exact hb0.1.2 x hx
    clear hx hxm hq80 hst hsk hsn hbk had' hzs hsg hz hb0 HB
    go_upto_region 12 with fail
    generalize wr.heap.size = nb at HG5 ⊢
    have HSG : Hid (∀ W, BX w ((nb, .cells #[.int .i64 fd, .string (I fq.num), .string (dn fq)] 44 (0, 0)) :: (n11, fobj sk) :: (n12, fobj qf) :: [(gr, orr), (gl, ol), (w.heap.size, .cells i.cells 27 (0, 0))]) W → Calls Tryz.prog 37 #[.agg #[.string (I fq.num), .string (dn fq)]] W fun e w' => e = .returned (.int .i64 z) ∧ Below W.heap.size W w') := fun W hW => HSG0.out W (HT.out.below hW.1)
    have hg : BX w ((nb, .cells #[.int .i64 fd, .string (I fq.num), .string (dn fq)] 44 (0, 0)) :: (n11, fobj sk) :: (n12, fobj qf) :: [(gr, orr), (gl, ol), (w.heap.size, .cells i.cells 27 (0, 0))]) W5.drew := ⟨HG5.out.1.drew, HG5.out.2⟩
    clear HG5 HSG0 hW5 c0 c1 c2
    rcases Nat.eq_zero_or_pos k with hk0 | hk0
    ·as_aux_lemma =>
     subst hk0
     go_wp2_with fail
     have mixed : Tryz.prog.follows .mixedOrders = true := by kernel_rfl
     refine wp_region_any mixed (wpAny_inv (ZAJ w ((n11, fobj sk) :: (n12, fobj qf) :: [(gr, orr), (gl, ol), (w.heap.size, .cells i.cells 27 (0, 0))]) ad F cc nb 0 fd 0 z fq _ _ _ _ _ _ _ _ _ _ _ _ _ _ _ _ _ _ _ _ _ _ _ _ _ _ _ _ _ _ _ _ _ _ _ _ _ _ _ _ _ _ _ _ _ _ _ _ _ _ _ _ _ _ _ _ _ _ _ _ _ _ _ _ _ _ _ _ _ _ _ _ _ _ _ _ _ _ _ _ _ _ _ _ _ _ _ _ _ _ _ _ _ _ _ _ _ _ _ _ _ _ _ _ _ _ _ _ _ _ _ _ _ _ _ _ _ _ _ _ _ _ _ _ _ _ _ _ _ _ _ _ _ _ _ _ _ _ _ _ _ _ _ _ _ _ _ _) ?stZA ?dnZA _ _ _ _ ⟨by simp, ⟨_, _, _, _, _, _, _, _, _, _, _, _, _, _, _, _, _, _, _, rfl, fun h => by simp at h, fun h => by simp at h, fun h => by simp at h, fun h => by simp at h, fun h => by simp at h, fun h => by simp at h, fun h => by simp at h, fun h => by simp at h, fun h => by simp at h, fun h => by simp at h, hg⟩⟩ (by decide))
     case dnZA =>
      intro L a w' hj hr
      have all := all_on hr hj.sz (by kernel_rfl)
      obtain ⟨s80, s81, s82, s83, s84, s85, s86, s87, s88, s89, s90, s91, s92, s93, s94, s95, s96, s97, s98, rfl, hv⟩ := hj.fr
      have HGG := hI hv.bx
      have es := hv.k18 (all 18 (by omega))
      clear all hv hj hr
      subst es
      have HGG : Hid (BX w ((nb, .cells #[.int .i64 fd, .string (I fq.num), .string (dn fq)] 44 (0, 0)) :: (n11, fobj sk) :: (n12, fobj qf) :: [(gr, orr), (gl, ol), (w.heap.size, .cells i.cells 27 (0, 0))]) w') := HGG.out
      have m0 := Lib.cell_of_heap (HGG.out.get 1 rfl) 0
      have m1 := Lib.cell_of_heap (HGG.out.get 1 rfl) 1
      have c0 := Lib.cell_of_heap (HGG.out.get 0 rfl) 0
      have c1 := Lib.cell_of_heap (HGG.out.get 0 rfl) 1
      have c2 := Lib.cell_of_heap (HGG.out.get 0 rfl) 2
      simp at m0 m1 c0 c1 c2
      go_wp2_with fail
      refine (HADD.out _ (HT.out.below HGG.out.1)).mono ?_
      rintro e w6 ⟨rfl, x6⟩
      have HG6 := hI (HGG.out.below x6)
      clear x6 HGG HADD m0 m1 c0 c1 c2
      have m0 := Lib.cell_of_heap (HG6.out.get 1 rfl) 0
      have m1 := Lib.cell_of_heap (HG6.out.get 1 rfl) 1
      have f0 := Lib.frozen_of_heap (HG6.out.get 1 rfl) 0
      have f1 := Lib.frozen_of_heap (HG6.out.get 1 rfl) 1
      simp at m0 m1 f0 f1
      go_wp2_with fail
      go_roundw
      case rel =>
       refine ⟨0 + 1, by go_num, by omega, ⟨set2_below HWN.out.1 HG6.out.1 _ _, fun x hx => (set2_far (HNN.out x hx).1 _ _).trans (HG6.out.2 x (List.mem_cons_of_mem _ (List.mem_cons_of_mem _ (List.mem_cons_of_mem _ hx))))⟩, ?_, (set2_far (Ne.symm hn) _ _).trans (HG6.out.get 2 rfl)⟩
       rw [HSN.out]
       exact Go.Proofs.YteennkgpeiafaaaGreatDoor.set2 (HG6.out.get 1 rfl) _ _
      case measure => simp [intOf]; omega
     case stZA =>
      intro L a w' hj i hi
      obtain ⟨hun, o, ho, hall⟩ := mem_ready.1 hi
      have hoff := getD_off hun
      have hlt := (Array.getElem?_eq_some_iff.1 ho).1
      simp at hlt
      obtain ⟨s80, s81, s82, s83, s84, s85, s86, s87, s88, s89, s90, s91, s92, s93, s94, s95, s96, s97, s98, rfl, hv⟩ := hj.fr
      have HV := hI hv
      have HJ := hI hj
      clear hv hj
      rcases (show i = 0 ∨ i = 1 ∨ i = 2 ∨ i = 3 ∨ i = 4 ∨ i = 5 ∨ i = 6 ∨ i = 7 ∨ i = 8 ∨ i = 9 ∨ i = 10 ∨ i = 11 ∨ i = 12 ∨ i = 13 ∨ i = 14 ∨ i = 15 ∨ i = 16 ∨ i = 17 ∨ i = 18 from by omega) with rfl | rfl | rfl | rfl | rfl | rfl | rfl | rfl | rfl | rfl | rfl | rfl | rfl | rfl | rfl | rfl | rfl | rfl | rfl
      all_goals simp at ho
      all_goals subst ho
      rotate_left
      cases HV.out.k0 (Hq hall 0).out
      rotate_left
      cases HV.out.k1 (Hq hall 1).out
      rotate_left
      cases HV.out.k2 (Hq hall 2).out
      rotate_left
      cases HV.out.k2 (Hq hall 2).out
      rotate_left
      cases HV.out.k2 (Hq hall 2).out
      rotate_left
      cases HV.out.k2 (Hq hall 2).out
      rotate_left
      cases HV.out.k2 (Hq hall 2).out
      rotate_left
      cases HV.out.k2 (Hq hall 2).out
      rotate_left
      cases HV.out.k2 (Hq hall 2).out
      rotate_left
      cases HV.out.k2 (Hq hall 2).out
      rotate_left
      cases HV.out.k2 (Hq hall 2).out
      rotate_left
      cases HV.out.k2 (Hq hall 2).out
      rotate_left
      cases HV.out.k12 (Hq hall 12).out
      rotate_left
      cases HV.out.k13 (Hq hall 13).out
      rotate_left
      cases HV.out.k14 (Hq hall 14).out
      cases HV.out.k13 (Hq hall 13).out
      have hb := HV.out.bx.get 0 rfl; have c0 := Lib.cell_of_heap hb 0; have c1 := Lib.cell_of_heap hb 1; have c2 := Lib.cell_of_heap hb 2
      simp at c0 c1 c2
      rotate_left
      ·cases HV.out.k15 (Hq hall 15).out
       cases HV.out.k13 (Hq hall 13).out
       clear hall hi
       refine wpOp_hid rfl fun K' HK => ?_
       go_simp
       refine (HSG.out _ HV.out.bx).mono ?_
       rintro e wn ⟨rfl, hbn⟩
       cases HV.out
       refine HK.out _ _ ⟨by simp [HJ.out.sz], ⟨_, _, _, _, _, _, _, _, _, _, _, _, _, _, _, _, _, _, _, rfl, ?_, ?_, ?_, ?_, ?_, ?_, ?_, fun _ => rfl, ?_, ?_, HV.out.bx.below hbn⟩⟩
       all_goals exact Um (by assumption)
      cases HV.out.k16 (Hq hall 16).out
      cases HV.out.k13 (Hq hall 13).out
      have tz := TZ.out
      rotate_left
      cases HV.out.k13 (Hq hall 13).out
      cases HV.out.k17 (Hq hall 17).out
      rotate_left
      all_goals
       clear hall hi
       refine wpOp_hid rfl fun K' HK => ?_
       go_simp
       cases HV.out
       refine HK.out _ _ ⟨by simp [HJ.out.sz], ?_⟩
       iterate 19 apply Exists.intro
       refine ⟨rfl, ?_⟩
       constructor
       all_goals first | exact Um (by assumption) | exact Un (by assumption) | exact Uf (by assumption) | exact fun _ => rfl | assumption
    ·obtain ⟨⟨pd, pq⟩, hp⟩ : ∃ x, Ls[k - 1]? = some x := ⟨_, List.getElem?_eq_getElem (by rw [HFF.out]; omega)⟩
     have hlt2 : pd < fd := by
      obtain ⟨i1, e1⟩ := List.getElem?_eq_some_iff.1 hp
      obtain ⟨i2, e2⟩ := List.getElem?_eq_some_iff.1 HX.out
      have := List.pairwise_iff_getElem.1 HASC.out (k - 1) k i1 i2 (by omega)
      rw [e1, e2] at this
      exact this
     have TK : Hid (decide ((0 : Int) < (k : Int)) = true) := decide_eq_true (by omega)
     have TF : Hid (decide (fd ≤ pd) = false) := decide_eq_false (by omega)
     have TW : Hid (IntKind.i64.wrap ((k : Int) - 1) = ((k - 1 : Nat) : Int)) := by rw [Hid, IntKind.wrap_i64]; omega
     have TI : Hid (((k - 1 : Nat) : Int) < (F : Int)) := by show _ < _; omega
     have HPD : Hid (∀ W : World, W.heap[gl]? = some ol → W.cell? (ad.add ((k - 1) * 3)) = some (.int .i64 pd)) := fun W hW => (HAT.out W (k - 1) _ hW hp).1
     clear hp hlt2
     go_wp2_with fail
     have mixed : Tryz.prog.follows .mixedOrders = true := by kernel_rfl
     refine wp_region_any mixed (wpAny_inv (ZBJ w ((n11, fobj sk) :: (n12, fobj qf) :: [(gr, orr), (gl, ol), (w.heap.size, .cells i.cells 27 (0, 0))]) ad F cc nb k fd pd z fq _ _ _ _ _ _ _ _ _ _ _ _ _ _ _ _ _ _ _ _ _ _ _ _ _ _ _ _ _ _ _ _ _ _ _ _ _ _ _ _ _ _ _ _ _ _ _ _ _ _ _ _ _ _ _ _ _ _ _ _ _ _ _ _ _ _ _ _ _ _ _ _ _ _ _ _ _ _ _ _ _ _ _ _ _ _ _ _ _ _ _ _ _ _ _ _ _ _ _ _ _ _ _ _ _ _ _ _ _ _ _ _ _ _ _ _ _ _ _ _ _ _ _ _ _ _ _ _ _ _ _ _ _ _ _ _ _ _ _ _ _ _ _ _ _ _ _ _) ?stZB ?dnZB _ _ _ _ ⟨by simp, ⟨_, _, _, _, _, _, _, _, _, _, _, _, _, _, _, _, _, _, _, rfl, fun h => by simp at h, fun h => by simp at h, fun h => by simp at h, fun h => by simp at h, fun h => by simp at h, fun h => by simp at h, fun h => by simp at h, fun h => by simp at h, fun h => by simp at h, fun h => by simp at h, fun h => by simp at h, fun h => by simp at h, fun h => by simp at h, fun h => by simp at h, fun h => by simp at h, fun h => by simp at h, fun h => by simp at h, fun h => by simp at h, fun h => by simp at h, hg⟩⟩ (by decide))
     case dnZB =>
      intro L a w' hj hr
      have all := all_on hr hj.sz (by kernel_rfl)
      obtain ⟨s80, s81, s82, s83, s84, s85, s86, s87, s88, s89, s90, s91, s92, s93, s94, s95, s96, s97, s98, rfl, hv⟩ := hj.fr
      have HGG := hI hv.bx
      have es := hv.k18 (all 18 (by omega))
      clear all hv hj hr
      subst es
      have HGG : Hid (BX w ((nb, .cells #[.int .i64 fd, .string (I fq.num), .string (dn fq)] 44 (0, 0)) :: (n11, fobj sk) :: (n12, fobj qf) :: [(gr, orr), (gl, ol), (w.heap.size, .cells i.cells 27 (0, 0))]) w') := HGG.out
      have m0 := Lib.cell_of_heap (HGG.out.get 1 rfl) 0
      have m1 := Lib.cell_of_heap (HGG.out.get 1 rfl) 1
      have c0 := Lib.cell_of_heap (HGG.out.get 0 rfl) 0
      have c1 := Lib.cell_of_heap (HGG.out.get 0 rfl) 1
      have c2 := Lib.cell_of_heap (HGG.out.get 0 rfl) 2
      simp at m0 m1 c0 c1 c2
      go_wp2_with fail
      refine (HADD.out _ (HT.out.below HGG.out.1)).mono ?_
      rintro e w6 ⟨rfl, x6⟩
      have HG6 := hI (HGG.out.below x6)
      clear x6 HGG HADD m0 m1 c0 c1 c2
      have m0 := Lib.cell_of_heap (HG6.out.get 1 rfl) 0
      have m1 := Lib.cell_of_heap (HG6.out.get 1 rfl) 1
      have f0 := Lib.frozen_of_heap (HG6.out.get 1 rfl) 0
      have f1 := Lib.frozen_of_heap (HG6.out.get 1 rfl) 1
      simp at m0 m1 f0 f1
      go_wp2_with fail
      go_roundw
      case rel =>
       refine ⟨k + 1, by go_num, by omega, ⟨set2_below HWN.out.1 HG6.out.1 _ _, fun x hx => (set2_far (HNN.out x hx).1 _ _).trans (HG6.out.2 x (List.mem_cons_of_mem _ (List.mem_cons_of_mem _ (List.mem_cons_of_mem _ hx))))⟩, ?_, (set2_far (Ne.symm hn) _ _).trans (HG6.out.get 2 rfl)⟩
       rw [HSN.out]
       exact Go.Proofs.YteennkgpeiafaaaGreatDoor.set2 (HG6.out.get 1 rfl) _ _
      case measure => simp [intOf]; omega
     case stZB =>
      intro L a w' hj i hi
      obtain ⟨hun, o, ho, hall⟩ := mem_ready.1 hi
      have hoff := getD_off hun
      have hlt := (Array.getElem?_eq_some_iff.1 ho).1
      simp at hlt
      obtain ⟨s80, s81, s82, s83, s84, s85, s86, s87, s88, s89, s90, s91, s92, s93, s94, s95, s96, s97, s98, rfl, hv⟩ := hj.fr
      have HV := hI hv
      have HJ := hI hj
      clear hv hj
      rcases (show i = 0 ∨ i = 1 ∨ i = 2 ∨ i = 3 ∨ i = 4 ∨ i = 5 ∨ i = 6 ∨ i = 7 ∨ i = 8 ∨ i = 9 ∨ i = 10 ∨ i = 11 ∨ i = 12 ∨ i = 13 ∨ i = 14 ∨ i = 15 ∨ i = 16 ∨ i = 17 ∨ i = 18 from by omega) with rfl | rfl | rfl | rfl | rfl | rfl | rfl | rfl | rfl | rfl | rfl | rfl | rfl | rfl | rfl | rfl | rfl | rfl | rfl
      all_goals simp at ho
      all_goals subst ho
      rotate_left
      cases HV.out.k0 (Hq hall 0).out
      have tk := TK.out
      rotate_left
      cases HV.out.k1 (Hq hall 1).out
      rotate_left
      cases HV.out.k2 (Hq hall 2).out
      rotate_left
      cases HV.out.k3 (Hq hall 3).out
      cases HV.out.k2 (Hq hall 2).out
      have hb := HV.out.bx.get 0 rfl; have c0 := Lib.cell_of_heap hb 0; have c1 := Lib.cell_of_heap hb 1; have c2 := Lib.cell_of_heap hb 2
      simp at c0 c1 c2
      rotate_left
      cases HV.out.k2 (Hq hall 2).out
      rotate_left
      cases HV.out.k2 (Hq hall 2).out
      rotate_left
      cases HV.out.k6 (Hq hall 6).out
      cases HV.out.k2 (Hq hall 2).out
      have tw := TW.out
      rotate_left
      cases HV.out.k5 (Hq hall 5).out
      cases HV.out.k7 (Hq hall 7).out
      cases HV.out.k2 (Hq hall 2).out
      have tk := TI.out
      rotate_left
      cases HV.out.k8 (Hq hall 8).out
      cases HV.out.k2 (Hq hall 2).out
      rotate_left
      cases HV.out.k9 (Hq hall 9).out
      cases HV.out.k2 (Hq hall 2).out
      have hpd := HPD.out _ (HV.out.bx.get 4 rfl)
      rotate_left
      cases HV.out.k4 (Hq hall 4).out
      cases HV.out.k10 (Hq hall 10).out
      cases HV.out.k2 (Hq hall 2).out
      have tf := TF.out
      rotate_left
      cases HV.out.k2 (Hq hall 2).out
      cases HV.out.k11 (Hq hall 11).out
      rotate_left
      cases HV.out.k12 (Hq hall 12).out
      rotate_left
      cases HV.out.k13 (Hq hall 13).out
      rotate_left
      cases HV.out.k14 (Hq hall 14).out
      cases HV.out.k13 (Hq hall 13).out
      have hb := HV.out.bx.get 0 rfl; have c0 := Lib.cell_of_heap hb 0; have c1 := Lib.cell_of_heap hb 1; have c2 := Lib.cell_of_heap hb 2
      simp at c0 c1 c2
      rotate_left
      ·cases HV.out.k15 (Hq hall 15).out
       cases HV.out.k13 (Hq hall 13).out
       clear hall hi
       refine wpOp_hid rfl fun K' HK => ?_
       go_simp
       refine (HSG.out _ HV.out.bx).mono ?_
       rintro e wn ⟨rfl, hbn⟩
       cases HV.out
       refine HK.out _ _ ⟨by simp [HJ.out.sz], ?_⟩
       iterate 19 apply Exists.intro
       refine ⟨rfl, ?_⟩
       constructor
       case k16 => exact fun _ => rfl
       case bx => exact HV.out.bx.below hbn
       all_goals exact Um (by assumption)
      cases HV.out.k16 (Hq hall 16).out
      cases HV.out.k13 (Hq hall 13).out
      have tz := TZ.out
      rotate_left
      cases HV.out.k13 (Hq hall 13).out
      cases HV.out.k17 (Hq hall 17).out
      rotate_left
      all_goals
       clear hall hi
       refine wpOp_hid rfl fun K' HK => ?_
       go_simp
       cases HV.out
       refine HK.out _ _ ⟨by simp [HJ.out.sz], ?_⟩
       iterate 19 apply Exists.intro
       refine ⟨rfl, ?_⟩
       constructor
       all_goals first | exact Um (by assumption) | exact Un (by assumption) | exact Uf (by assumption) | exact fun _ => rfl | assumption
   ·as_aux_lemma =>
    have hcx : decide ((k : Int) < (F : Int)) = false := by simp; omega
    have hcx2 : decide (k < F) = false := decide_eq_false (by omega)
    have hb0 := HB.out
    rw [List.take_of_length_le (by rw [HFF.out]; exact hge), HSUM.out] at hb0
    have HB1 := hI hb0
    clear hb0 HB
    go_wp2_with fail
    go_loopw [15, 16, 17, 106] (fun _ _ _ v wr => ∃ k : Nat, v = .int .i64 (k : Int) ∧ k ≤ N ∧ BF w [(gr, orr), (gl, ol), (w.heap.size, .cells i.cells 27 (0, 0))] n11 n12 (qf + rsum cl) (qf + rsum (cl.take k)) wr) (fun _ _ _ v _ => N - (intOf v).toNat)
    case atStart => exact ⟨0, rfl, by omega, by
     have e : qf + rsum (cl.take 0) = qf := by show qf + rsum [] = qf; rw [show rsum [] = 0 from rfl, Rat.add_zero]
     rw [e]; exact HB1.out⟩
    case round =>
     obtain ⟨j, rfl, hj, hbf⟩ := hrel
     have HB := hI hbf
     clear hbf HB1 hcx hcx2 hge
     rcases Nat.lt_or_ge j N with hlt | hge
     ·as_aux_lemma =>
      have hxm := HCL.out j hlt
      have hq59 := HCB.out _ (List.mem_of_getElem? hxm)
      have hco := HCO.out j hlt
      have hst := rsum_take hxm
      obtain ⟨cq, hcq⟩ : ∃ q, coupQ i j = q := ⟨_, rfl⟩
      rw [hcq] at hxm hq59 hco hst
      obtain ⟨sk, hsk⟩ : ∃ q, qf + rsum (cl.take j) = q := ⟨_, rfl⟩
      obtain ⟨sn, hsn⟩ : ∃ q, sk + cq = q := ⟨_, rfl⟩
      have hst2 : qf + rsum (cl.take (j + 1)) = sn := by rw [hst, ← hsn, ← hsk, Rat.add_assoc]
      have hbk : BdQ sk 3000 := by
       rw [← hsk]
       refine (BdQ.add HQF.out (rsum_bd _ 59 (fun x hx => HCB.out x (List.mem_of_mem_take hx)))).mono ?_
       rw [List.length_take]; omega
      have had' := fun W (hW : Tabs W) => fAddQ hbk hq59 (by omega) (by omega) W hW
      rw [hsn] at had'
      unfold fenc at had'
      have HADD := hI had'
      have HSN := hI hst2
      have HCO1 := hI hco
      have hcx : decide ((j : Int) < (N : Int)) = true := by simp; omega
      have hb0 := HB.out
      rw [hsk] at hb0
      have HB2 := hI hb0
      clear hxm hq59 hco hst hcq hsk hsn hst2 hbk had' hb0 HB
      have c0 := Lib.cell_of_heap (HB2.out.1.get 2 rfl) 0
      have c1 := Lib.cell_of_heap (HB2.out.1.get 2 rfl) 1
      have c2 := Lib.cell_of_heap (HB2.out.1.get 2 rfl) 2
      have c3 := Lib.cell_of_heap (HB2.out.1.get 2 rfl) 3
      have c4 := Lib.cell_of_heap (HB2.out.1.get 2 rfl) 4
      have c5 := Lib.cell_of_heap (HB2.out.1.get 2 rfl) 5
      have c6 := Lib.cell_of_heap (HB2.out.1.get 2 rfl) 6
      have c7 := Lib.cell_of_heap (HB2.out.1.get 2 rfl) 7
      have c8 := Lib.cell_of_heap (HB2.out.1.get 2 rfl) 8
      have c9 := Lib.cell_of_heap (HB2.out.1.get 2 rfl) 9
      have c10 := Lib.cell_of_heap (HB2.out.1.get 2 rfl) 10
      have c11 := Lib.cell_of_heap (HB2.out.1.get 2 rfl) 11
      have c12 := Lib.cell_of_heap (HB2.out.1.get 2 rfl) 12
      have c13 := Lib.cell_of_heap (HB2.out.1.get 2 rfl) 13
      have c14 := Lib.cell_of_heap (HB2.out.1.get 2 rfl) 14
      simp [Inst.cells] at c0 c1 c2 c3 c4 c5 c6 c7 c8 c9 c10 c11 c12 c13 c14
      go_wp2_with fail
      refine (HCO1.out _ (HT.out.below HB2.out.1.1)).mono ?_
      rintro e w6 ⟨rfl, x6⟩
      have HB3 := hI (HB2.out.below x6)
      clear x6 HB2 HCO1 c0 c1 c2 c3 c4 c5 c6 c7 c8 c9 c10 c11 c12 c13 c14
      obtain ⟨W6, hW6⟩ : ∃ W6, w6.alloc (.cells #[.string (I cq.num), .string (dn cq)] 25) = W6 := ⟨_, rfl⟩
      have b6 : Below w6.heap.size w6 W6 := by rw [← hW6]; exact (Below.refl _ _).alloc (Nat.le_refl _) _
      have k6 : W6.heap[w6.heap.size]? = some (fobj cq) := by rw [← hW6]; exact heap_alloc_new _ _
      have HB4 := hI (HB3.out.below b6)
      have q0 := Lib.cell_of_heap (k6) 0
      have q1 := Lib.cell_of_heap (k6) 1
      simp at q0 q1
      have m0 := Lib.cell_of_heap (HB4.out.2.2) 0
      have m1 := Lib.cell_of_heap (HB4.out.2.2) 1
      simp at m0 m1
      have HK6 := hI k6
      clear b6 k6 HB3
      go_wp2_with fail
      refine (HADD.out _ (HT.out.below HB4.out.1.1)).mono ?_
      rintro e w7 ⟨rfl, x7⟩
      have HB5 := hI (HB4.out.below x7)
      clear x7 HB4 HADD hW6 HK6 q0 q1 m0 m1
      have m0 := Lib.cell_of_heap HB5.out.2.2 0
      have m1 := Lib.cell_of_heap HB5.out.2.2 1
      have f0 := Lib.frozen_of_heap HB5.out.2.2 0
      have f1 := Lib.frozen_of_heap HB5.out.2.2 1
      simp at m0 m1 f0 f1
      go_wp2_with fail
      go_roundw
      case rel =>
       refine ⟨j + 1, by go_num, by omega, ⟨set2_below HWN.out.2 HB5.out.1.1 _ _, fun x hx => (set2_far (HNN.out x hx).2 _ _).trans (HB5.out.1.2 x hx)⟩, (set2_far hn _ _).trans HB5.out.2.1, ?_⟩
       rw [HSN.out]
       exact Go.Proofs.YteennkgpeiafaaaGreatDoor.set2 HB5.out.2.2 _ _
      case measure => simp [intOf]; omega
     ·as_aux_lemma =>
      have hcx : decide ((j : Int) < (N : Int)) = false := by simp; omega
      have hcx2 : decide (j < N) = false := decide_eq_false (by omega)
      have hb0 := HB.out
      rw [List.take_of_length_le (by rw [HCLL.out]; exact hge)] at hb0
      have HB1 := hI hb0
      clear hb0 HB
      obtain ⟨qt, hqt⟩ : ∃ q, qf + rsum cl = q := ⟨_, rfl⟩
      rw [hqt] at HB1
      obtain ⟨ql, hlast, hge2, hqlb⟩ := HLAST.out
      obtain ⟨c0, c1, c2⟩ := HAT.out _ (F - 1) _ (HB1.out.1.get 1 rfl) hlast
      simp only at c0 c1 c2
      have hw1 : IntKind.i64.wrap ((F : Int) - 1) = ((F - 1 : Nat) : Int) := by rw [IntKind.wrap_i64]; omega
      have hki : ((F - 1 : Nat) : Int) < (F : Int) := by omega
      obtain ⟨W8, hW8⟩ : ∃ W8, wr.alloc (.cells #[.int .i64 i.matures, .string (I ql.num), .string (dn ql)] 44) = W8 := ⟨_, rfl⟩
      have b8 : Below wr.heap.size wr W8 := by rw [← hW8]; exact (Below.refl _ _).alloc (Nat.le_refl _) _
      have k8 : W8.heap[wr.heap.size]? = some (.cells #[.int .i64 i.matures, .string (I ql.num), .string (dn ql)] 44 (0, 0)) := by rw [← hW8]; exact heap_alloc_new _ _
      have HB8 := hI (HB1.out.below b8)
      have HK8 := hI k8
      have HQL := hI (And.intro hge2 hqlb)
      clear b8 k8 hlast hge2 hqlb hqt hge HB1
      go_wp2_with fail
      generalize wr.heap.size = n18 at HK8 ⊢
      clear hW8 c0 c1 c2 hcx hcx2
      go_loopw [19] (fun v wr => ∃ k : Nat, v = .int .i64 (k : Int) ∧ k ≤ F ∧ (∀ j x, j < k → Ls[j]? = some x → x.1 ≤ d) ∧ wr = W8) (fun v _ => F - (intOf v).toNat)
      case atStart => exact ⟨0, rfl, by omega, fun j x hj => by omega, rfl⟩
      case round =>
       obtain ⟨k, rfl, hk, hlo, rfl⟩ := hrel
       have HLO := hI hlo
       clear hlo
       have hx : (k < F ∧ ∃ x, Ls[k]? = some x ∧ x.1 ≤ d) ∨ ((k < F → ∃ x, Ls[k]? = some x ∧ d < x.1) ∧ ∀ x, Ls[k]? = some x → d < x.1) := by
        rcases Nat.lt_or_ge k F with hlt | hge
        ·obtain ⟨x, hx⟩ : ∃ x, Ls[k]? = some x := ⟨_, List.getElem?_eq_getElem (by rw [HFF.out]; exact hlt)⟩
         by_cases h : x.1 ≤ d
         ·exact .inl ⟨hlt, x, hx, h⟩
         ·refine .inr ⟨fun _ => ⟨x, hx, by omega⟩, fun y hy => ?_⟩
          rw [hx] at hy
          injection hy with hy
          subst hy
          omega
        ·refine .inr ⟨fun h => by omega, fun x hx => ?_⟩
         have := (List.getElem?_eq_some_iff.1 hx).1
         rw [HFF.out] at this
         omega
       rcases hx with ⟨hlt, ⟨fd, fq⟩, hx, hle⟩ | ⟨hin, hhi⟩
       ·have hcx : decide ((k : Int) < (F : Int)) = true := by simp; omega
        have hki : (k : Int) < (F : Int) := by omega
        obtain ⟨c0, c1, c2⟩ := HAT.out _ k _ (HB8.out.1.get 1 rfl) hx
        simp only at c0 c1 c2 hle
        have t1 : decide (fd ≤ d) = true := decide_eq_true hle
        have HXX := hI (And.intro hx hle)
        clear hx hle
        go_wp2_with fail
        go_roundw
        case rel =>
         refine ⟨k + 1, by go_num, by omega, fun j x hj hx => ?_, by first | rfl | trivial⟩
         rcases Nat.lt_or_ge j k with h | h
         ·exact HLO.out j x h hx
         ·obtain rfl : j = k := by omega
          have e := HXX.out.1.symm.trans hx
          injection e with e
          rw [← e]
          exact HXX.out.2
        case measure => simp [intOf]; omega
       ·as_aux_lemma =>
        have HRD : Hid (Ls.drop k = R) := by
         have h := rest_drop HLO.out hhi HASC.out
         have h2 := HR.out
         unfold restL at h2
         rw [h2] at h
         exact h.symm
        have HIN := hI hin
        clear hhi hin
        have hx : (decide ((k : Int) < (F : Int)) = false ∧ decide (k < F) = false) ∨ (decide ((k : Int) < (F : Int)) = true ∧ decide (k < F) = true ∧ ∃ fd, (∀ W : World, W.heap[gl]? = some ol → W.cell? (ad.add (k * 3)) = some (.int .i64 fd)) ∧ decide (fd ≤ d) = false ∧ (k : Int) < (F : Int)) := by
         rcases Nat.lt_or_ge k F with hlt | hge
         ·obtain ⟨x, hx, hd⟩ := HIN.out hlt
          exact .inr ⟨decide_eq_true (by omega), decide_eq_true hlt, x.1, fun W hW => (HAT.out W k _ hW hx).1, decide_eq_false (by omega), by omega⟩
         ·exact .inl ⟨decide_eq_false (by omega), decide_eq_false (by omega)⟩
        have hsl := fun W => fslice_hi W ad F cc k hk
        obtain ⟨a2, ha2⟩ : ∃ a2 : Addr, a2 = (if cc = k then ad else ad.add (k * 3)) := ⟨_, rfl⟩
        rw [← ha2] at hsl
        have HR2 : Hid (∀ W : World, W.heap[gl]? = some ol → RdFw W.heap.size W (some a2) R) := fun W hW => by
         intro hne
         rw [← HRD.out] at hne ⊢
         have hkF : k < F := by
          rcases Nat.lt_or_ge k F with h | h
          ·exact h
          ·exact absurd (List.drop_eq_nil_of_le (by rw [HFF.out]; exact h)) hne
         have hck : cc ≠ k := by omega
         rw [if_neg hck] at ha2
         have hlt := (Array.getElem?_eq_some_iff.1 hW).1
         rw [adkF HAD.out] at ha2
         refine ⟨a2, rfl, by rw [ha2]; exact hlt, fun j x hj => ?_⟩
         rw [List.getElem?_drop] at hj
         have h := HAT.out W (k + j) x hW hj
         rw [adkF HAD.out] at h
         rw [ha2, add_noneF _ rfl]
         rw [show k * 3 + j * 3 = (k + j) * 3 from by omega]
         exact h
        have HR1 : Hid (∀ W : World, W.heap[gr]? = some orr → RdFw W.heap.size W (some ⟨gr, 0, none⟩) R) := fun W hW => rdfw_row (sp := sr) (by rw [← HOR.out]; exact hW)
        have hlen : F - k = M := by have := congrArg List.length HRD.out; rw [List.length_drop, HFF.out, HML.out] at this; exact this
        have HSF : Hid (∀ W : World, W.heap[gl]? = some ol → W.heap[gr]? = some orr → Calls Tryz.prog 36 #[.slice (some ⟨gr, 0, none⟩) M cr, .slice (some a2) (F - k) (cc - k)] W fun e w' => e = .returned (.bool true) ∧ ∃ m, w' = W.drewN m) := fun W h1 h2 => by
         have h := rSameFlows_any (some ⟨gr, 0, none⟩) (some a2) R R cr (cc - k) (by rw [HML.out]; omega) (by rw [HML.out]; omega) _ _ W (HR1.out W h2) (HR2.out W h1)
         rw [sameB_yes rfl, HML.out] at h
         rw [hlen]
         exact h
        obtain ⟨z, hz⟩ : ∃ z, cmpI (ql - qf).num 0 = z := ⟨_, rfl⟩
        have tz : decide (0 ≤ z) = true := decide_eq_true (by rw [← hz]; exact cmp_ge HQL.out.1)
        have tz' : decide (z ≥ 0) = true := tz
        have hcm := fun W (hW : Tabs W) => fCmpQ HQL.out.2 HQF.out (by omega) (by omega) W hW
        rw [hz, ← HFE.out.1] at hcm
        unfold fenc at hcm
        have HCM := hI hcm
        have hqe := run_eql_self (I qt.num) (dn qt)
        have tm : (i.matures == i.matures) = true := beq_self_eq_true _
        clear hz hcm hlen ha2 HRD HR1 HR2 HIN
        have c0 := Lib.cell_of_heap (HB8.out.1.get 2 rfl) 0
        have c1 := Lib.cell_of_heap (HB8.out.1.get 2 rfl) 1
        have c2 := Lib.cell_of_heap (HB8.out.1.get 2 rfl) 2
        have c3 := Lib.cell_of_heap (HB8.out.1.get 2 rfl) 3
        have c4 := Lib.cell_of_heap (HB8.out.1.get 2 rfl) 4
        have c5 := Lib.cell_of_heap (HB8.out.1.get 2 rfl) 5
        have c6 := Lib.cell_of_heap (HB8.out.1.get 2 rfl) 6
        have c7 := Lib.cell_of_heap (HB8.out.1.get 2 rfl) 7
        have c8 := Lib.cell_of_heap (HB8.out.1.get 2 rfl) 8
        have c9 := Lib.cell_of_heap (HB8.out.1.get 2 rfl) 9
        have c10 := Lib.cell_of_heap (HB8.out.1.get 2 rfl) 10
        have c11 := Lib.cell_of_heap (HB8.out.1.get 2 rfl) 11
        have c12 := Lib.cell_of_heap (HB8.out.1.get 2 rfl) 12
        have c13 := Lib.cell_of_heap (HB8.out.1.get 2 rfl) 13
        have c14 := Lib.cell_of_heap (HB8.out.1.get 2 rfl) 14
        simp [Inst.cells] at c0 c1 c2 c3 c4 c5 c6 c7 c8 c9 c10 c11 c12 c13 c14
        have m0 := Lib.cell_of_heap (HB8.out.2.1) 0
        have m1 := Lib.cell_of_heap (HB8.out.2.1) 1
        simp at m0 m1
        have n0 := Lib.cell_of_heap (HB8.out.2.2) 0
        have n1 := Lib.cell_of_heap (HB8.out.2.2) 1
        simp at n0 n1
        have l0 := Lib.cell_of_heap HK8.out 0
        have l1 := Lib.cell_of_heap HK8.out 1
        have l2 := Lib.cell_of_heap HK8.out 2
        simp at l0 l1 l2
        rcases hx with ⟨t1, t2⟩ | ⟨t1, t2, fd, hcf, t3, hki⟩
        ·go_wp2_with fail
         refine (HCM.out _ (HT.out.below HB8.out.1.1)).mono ?_
         rintro e w9 ⟨rfl, x9⟩
         have HB9 := hI (HB8.out.below x9)
         clear x9 HB8 HK8 c0 c1 c2 c3 c4 c5 c6 c7 c8 c9 c10 c11 c12 c13 c14 m0 m1 n0 n1 l0 l1 l2
         go_wp2_with fail
         refine (HSF.out _ (HB9.out.1.get 1 rfl) (HB9.out.1.get 0 rfl)).mono ?_
         rintro e wa ⟨rfl, m, rfl⟩
         have HBA := hI (HB9.out.below (below_drewN (Below.refl _ _) m))
         go_wp2_with fail
         refine (awake11_any _ (HT.out.below HBA.out.1.1)).mono ?_
         rintro e wz ⟨rfl, xz⟩
         have HBZ := hI (HBA.out.1.below xz).1
         clear xz
         go_wp2_with fail
         go_ret
         exact ⟨rfl, HBZ.out⟩
        ·have c0f := hcf _ (HB8.out.1.get 1 rfl)
         clear hcf
         go_wp2_with fail
         refine (HCM.out _ (HT.out.below HB8.out.1.1)).mono ?_
         rintro e w9 ⟨rfl, x9⟩
         have HB9 := hI (HB8.out.below x9)
         clear x9 HB8 HK8 c0f c0 c1 c2 c3 c4 c5 c6 c7 c8 c9 c10 c11 c12 c13 c14 m0 m1 n0 n1 l0 l1 l2
         go_wp2_with fail
         refine (HSF.out _ (HB9.out.1.get 1 rfl) (HB9.out.1.get 0 rfl)).mono ?_
         rintro e wa ⟨rfl, m, rfl⟩
         have HBA := hI (HB9.out.below (below_drewN (Below.refl _ _) m))
         go_wp2_with fail
         refine (awake11_any _ (HT.out.below HBA.out.1.1)).mono ?_
         rintro e wz ⟨rfl, xz⟩
         have HBZ := hI (HBA.out.1.below xz).1
         clear xz
         go_wp2_with fail
         go_ret
         exact ⟨rfl, HBZ.out⟩
end Go.Proofs.YteennkgpeiafaaaGreatDoor
