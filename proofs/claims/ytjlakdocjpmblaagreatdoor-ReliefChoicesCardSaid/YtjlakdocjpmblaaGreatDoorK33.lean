/-
  Relief's comparisons of lots. (Printed by gen_rel1.py.)
  The walks of trancheref19.Put and Open. (Printed by gen_opn3.py.)
  slices.rotateCmpFunc and slices.symMergeCmpFunc over lots. (Printed by gen_srt3.py.)
  slices.symMergeCmpFunc over lots: one element on the right. (Printed by gen_srt3.py.)
-/
import Derived.Test.YtjlakdocjpmblaaGreatDoorK32
import Derived.Deep.RegionWith
import Derived.Test.YtjlakdocjpmblaaGreatDoorK22
set_option linter.unusedVariables false
set_option linter.unusedSimpArgs false
set_option maxHeartbeats 16000000
set_option maxRecDepth 100000
namespace Go.Proofs.YtjlakdocjpmblaaGreatDoor
open Go.RowKit Tr Go.Shelf
theorem nanDay_any (x : Int) (w : World) : Calls Tryz.prog 131 #[.int .i64 x] w fun e w' => e = .returned (.bool false) ∧ w' = w := by
 have t : (x != x) = false := by simp
 go_enter Tryz.func131, Tryz.ntmps131
 go_wp2_with fail
 go_ret
 exact ⟨rfl, rfl⟩
theorem cmpDay_any (x y : Int) (w : World) : Calls Tryz.prog 96 #[.int .i64 x, .int .i64 y] w fun e w' => e = .returned (.int .i64 (cmpI x y)) ∧ w' = w := by
 have HN := hI (fun z W => nanDay_any z W)
 have HI : Hid (cmpI x y = if x < y then -1 else if x = y then 0 else 1) := rfl
 generalize cmpI x y = z at HI
 go_enter Tryz.func96, Tryz.ntmps96
 go_wp2_with fail
 refine (HN.out _ _).mono ?_
 rintro e w1 ⟨rfl, rfl⟩
 go_wp2_with fail
 refine (HN.out _ _).mono ?_
 rintro e w1 ⟨rfl, rfl⟩
 rcases Int.lt_trichotomy x y with h | h | h
 ·have t1 : decide (x < y) = true := decide_eq_true h
  have HZ : Hid (z = -1) := by rw [Hid, HI.out, if_pos h]
  clear h
  go_wp2_with fail
  go_ret
  exact ⟨by rw [HZ.out]; rfl, rfl⟩
 ·have t1 : decide (x < y) = false := decide_eq_false (by omega)
  have t2 : decide (x > y) = false := decide_eq_false (by omega)
  have t3 : decide (y < x) = false := t2
  have HZ : Hid (z = 0) := by rw [Hid, HI.out, if_neg (by omega), if_pos h]
  clear h
  go_wp2_with fail
  go_ret
  exact ⟨by rw [HZ.out]; rfl, rfl⟩
 ·have t1 : decide (x < y) = false := decide_eq_false (by omega)
  have t2 : decide (x > y) = true := decide_eq_true (by omega)
  have t3 : decide (y < x) = true := t2
  have HZ : Hid (z = 1) := by rw [Hid, HI.out, if_neg (by omega), if_neg (by omega)]
  clear h
  go_wp2_with fail
  go_ret
  exact ⟨by rw [HZ.out]; rfl, rfl⟩
theorem lbox2 (a b : Lot) (w : World) : ∃ W0 W1, w.alloc (.cells a.cells 48) = W0 ∧ W0.alloc (.cells b.cells 48) = W1 ∧ Below w.heap.size w W1 ∧ W0.heap.size = w.heap.size + 1 ∧ LotBox W1 w.heap.size a ∧ LotBox W1 (w.heap.size + 1) b := by
 obtain ⟨W0, hW0, hB0, hk0⟩ := lbox a w
 obtain ⟨W1, hW1, hB1, hk1⟩ := lbox b W0
 have hsz : W0.heap.size = w.heap.size + 1 := by rw [← hW0]; simp
 rw [hsz] at hk1
 exact ⟨W0, W1, hW0, hW1, hB0.trans (hB1.mono hB0.size), hsz, LotBox.below (l := a) (B := w.heap.size) hk0 hB1, hk1⟩
theorem first_any (a b : Lot) (w : World) : Calls Tryz.prog 95 #[a.enc, b.enc] w fun e w' => e = .returned (.int .i64 (cmpI a.acq b.acq)) ∧ Below w.heap.size w w' := by
 obtain ⟨W0, W1, hW0, hW1, hb, hsz, k0, k1⟩ := lbox2 a b w
 have c0 := Lib.cell_of_heap k0 2
 have c1 := Lib.cell_of_heap k1 2
 simp [Lot.cells] at c0 c1
 have HB := hI hb
 have HC := hI (fun W => cmpDay_any a.acq b.acq W)
 clear k0 k1 hb
 unfold Lot.enc Lot.cells at *
 go_enter Tryz.func95, Tryz.ntmps95
 go_wp2_with fail
 refine (HC.out _).mono ?_
 rintro e w1 ⟨rfl, rfl⟩
 go_wp2_with fail
 go_ret
 exact ⟨rfl, HB.out⟩
structure UNV (wS : World) (x y : Lot) (B0 B1 : Nat) (z : Int)  (L : Array Bool) (W : World) (s4 s5 s6 s7 s8 s9 s10 s11 s12 s13 s14 s15 : Value) : Prop where
 k0 : L.getD 0 false = true → s5 = .pointer (some ⟨B0, 5, none⟩)
 k1 : L.getD 1 false = true → s6 = .string x.cost
 k2 : L.getD 2 false = true → s7 = .pointer (some ⟨B1, 4, none⟩)
 k3 : L.getD 3 false = true → s8 = .string y.qty
 k4 : L.getD 4 false = true → s9 = .string (I (vl x.cost * vl y.qty))
 k5 : L.getD 5 false = true → s10 = .pointer (some ⟨B1, 5, none⟩)
 k6 : L.getD 6 false = true → s11 = .string y.cost
 k7 : L.getD 7 false = true → s12 = .pointer (some ⟨B0, 4, none⟩)
 k8 : L.getD 8 false = true → s13 = .string x.qty
 k9 : L.getD 9 false = true → s14 = .string (I (vl y.cost * vl x.qty))
 k10 : L.getD 10 false = true → s15 = .int .i64 z
 k11 : L.getD 11 false = true → s4 = .int .i64 z
 g : Below wS.heap.size wS W
structure UNJ (wS : World) (x y : Lot) (B0 B1 : Nat) (z : Int) (x0 x1 : Value) (L : Array Bool) (a : Act) (W : World) : Prop where
 sz : L.size = 12
 fr : ∃ s4 s5 s6 s7 s8 s9 s10 s11 s12 s13 s14 s15 : Value, a = { tmps := #[x0, x1, .pointer (some ⟨B0, 0, none⟩), .pointer (some ⟨B1, 0, none⟩), s4, s5, s6, s7, s8, s9, s10, s11, s12, s13, s14, s15], defers := [] } ∧ UNV wS x y B0 B1 z  L W s4 s5 s6 s7 s8 s9 s10 s11 s12 s13 s14 s15
theorem unit_any (a b : Lot) (ha : a.sized) (hb : b.sized) (w : World) (ht : Tabs w) : Calls Tryz.prog 99 #[a.enc, b.enc] w fun e w' => e = .returned (.int .i64 (cmpI (vl a.cost * vl b.qty) (vl b.cost * vl a.qty))) ∧ Below w.heap.size w w' := by
 obtain ⟨W0, W1, hW0, hW1, hB, hsz, k0, k1⟩ := lbox2 a b w
 obtain ⟨_, _, a3, a4, _⟩ := id ha
 obtain ⟨_, _, b3, b4, _⟩ := id hb
 have HK0 := hI k0
 have HK1 := hI k1
 have HB := hI hB
 have HT := hI (ht.below hB)
 have HM1 := hI (fun W (h : Below W1.heap.size W1 W) => Mul_any a.cost b.qty W (by omega) (by omega) (HT.out.below h))
 have HM2 := hI (fun W (h : Below W1.heap.size W1 W) => Mul_any b.cost a.qty W (by omega) (by omega) (HT.out.below h))
 obtain ⟨z, hz⟩ : ∃ z, cmpI (vl a.cost * vl b.qty) (vl b.cost * vl a.qty) = z := ⟨_, rfl⟩
 have s1 : (I (vl a.cost * vl b.qty)).size ≤ 4000000 := Nat.le_trans (I_size_le (mul_lt_pow (vl_lt a.cost) (vl_lt b.qty))) (by omega)
 have s2 : (I (vl b.cost * vl a.qty)).size ≤ 4000000 := Nat.le_trans (I_size_le (mul_lt_pow (vl_lt b.cost) (vl_lt a.qty))) (by omega)
 have hcm := fun W => Compare_any (I (vl a.cost * vl b.qty)) (I (vl b.cost * vl a.qty)) W s1 s2
 rw [vl_I, vl_I, hz] at hcm
 have HCM := hI hcm
 have HZ := hI hz
 have hgS : Below W1.heap.size W1 W1.drew := (Below.refl _ _).drew
 rw [hz]
 clear k0 k1 hB ht a3 a4 b3 b4 s1 s2 hcm hz
 unfold Lot.enc Lot.cells at *
 go_enter Tryz.func99, Tryz.ntmps99
 go_upto_region 1 with fail
 have mixed : Tryz.prog.follows .mixedOrders = true := by kernel_rfl
 refine wp_region_any mixed (wpAny_inv (UNJ W1 a b w.heap.size (w.heap.size + 1) z _ _) ?stUN ?dnUN _ _ _ _ ⟨by simp, ⟨_, _, _, _, _, _, _, _, _, _, _, _, rfl, fun h => by simp at h, fun h => by simp at h, fun h => by simp at h, fun h => by simp at h, fun h => by simp at h, fun h => by simp at h, fun h => by simp at h, fun h => by simp at h, fun h => by simp at h, fun h => by simp at h, fun h => by simp at h, fun h => by simp at h, hgS⟩⟩ (by decide))
 case dnUN =>
  intro L a w' hj hr
  have all := all_on hr hj.sz (by kernel_rfl)
  obtain ⟨s4, s5, s6, s7, s8, s9, s10, s11, s12, s13, s14, s15, rfl, hv⟩ := hj.fr
  have e11 := hv.k11 (all 11 (by omega))
  subst e11
  have HF := hI (HB.out.trans (hv.g.mono HB.out.size))
  clear all hv hj hr
  go_wp2_with fail
  go_ret
  exact ⟨rfl, HF.out⟩
 case stUN =>
  intro L a w' hj i hi
  obtain ⟨hun, o, ho, hall⟩ := mem_ready.1 hi
  have hoff := getD_off hun
  have hlt := (Array.getElem?_eq_some_iff.1 ho).1
  simp at hlt
  obtain ⟨s4, s5, s6, s7, s8, s9, s10, s11, s12, s13, s14, s15, rfl, hv⟩ := hj.fr
  have HV := hI hv
  have HJ := hI hj
  clear hv hj
  rcases (show i = 0 ∨ i = 1 ∨ i = 2 ∨ i = 3 ∨ i = 4 ∨ i = 5 ∨ i = 6 ∨ i = 7 ∨ i = 8 ∨ i = 9 ∨ i = 10 ∨ i = 11 from by omega) with rfl | rfl | rfl | rfl | rfl | rfl | rfl | rfl | rfl | rfl | rfl | rfl
  all_goals simp at ho
  all_goals subst ho
  rotate_left
  cases HV.out.k0 (Hq hall 0).out
  have hk := HK0.out.below HV.out.g
  have c0 := Lib.cell_of_heap hk 0
  have c1 := Lib.cell_of_heap hk 1
  have c2 := Lib.cell_of_heap hk 2
  have c3 := Lib.cell_of_heap hk 3
  have c4 := Lib.cell_of_heap hk 4
  have c5 := Lib.cell_of_heap hk 5
  have c6 := Lib.cell_of_heap hk 6
  simp [Lot.cells] at c0 c1 c2 c3 c4 c5 c6
  rotate_left
  rotate_left
  cases HV.out.k2 (Hq hall 2).out
  have hk := HK1.out.below HV.out.g
  have c0 := Lib.cell_of_heap hk 0
  have c1 := Lib.cell_of_heap hk 1
  have c2 := Lib.cell_of_heap hk 2
  have c3 := Lib.cell_of_heap hk 3
  have c4 := Lib.cell_of_heap hk 4
  have c5 := Lib.cell_of_heap hk 5
  have c6 := Lib.cell_of_heap hk 6
  simp [Lot.cells] at c0 c1 c2 c3 c4 c5 c6
  rotate_left
  ·cases HV.out.k1 (Hq hall 1).out
   cases HV.out.k3 (Hq hall 3).out
   clear hall hi
   refine wpOp_hid rfl fun K' HK => ?_
   go_simp
   refine (HM1.out w' HV.out.g).mono ?_
   rintro e wn ⟨rfl, bn⟩
   cases HV.out
   refine HK.out _ _ ⟨by simp [HJ.out.sz], ⟨_, _, _, _, _, _, _, _, _, _, _, _, rfl, ?_, ?_, ?_, ?_, fun _ => rfl, ?_, ?_, ?_, ?_, ?_, ?_, ?_, HV.out.g.trans (bn.mono HV.out.g.size)⟩⟩
   all_goals exact Um (by assumption)
  rotate_left
  cases HV.out.k5 (Hq hall 5).out
  have hk := HK1.out.below HV.out.g
  have c0 := Lib.cell_of_heap hk 0
  have c1 := Lib.cell_of_heap hk 1
  have c2 := Lib.cell_of_heap hk 2
  have c3 := Lib.cell_of_heap hk 3
  have c4 := Lib.cell_of_heap hk 4
  have c5 := Lib.cell_of_heap hk 5
  have c6 := Lib.cell_of_heap hk 6
  simp [Lot.cells] at c0 c1 c2 c3 c4 c5 c6
  rotate_left
  rotate_left
  cases HV.out.k7 (Hq hall 7).out
  have hk := HK0.out.below HV.out.g
  have c0 := Lib.cell_of_heap hk 0
  have c1 := Lib.cell_of_heap hk 1
  have c2 := Lib.cell_of_heap hk 2
  have c3 := Lib.cell_of_heap hk 3
  have c4 := Lib.cell_of_heap hk 4
  have c5 := Lib.cell_of_heap hk 5
  have c6 := Lib.cell_of_heap hk 6
  simp [Lot.cells] at c0 c1 c2 c3 c4 c5 c6
  rotate_left
  ·cases HV.out.k6 (Hq hall 6).out
   cases HV.out.k8 (Hq hall 8).out
   clear hall hi
   refine wpOp_hid rfl fun K' HK => ?_
   go_simp
   refine (HM2.out w' HV.out.g).mono ?_
   rintro e wn ⟨rfl, bn⟩
   cases HV.out
   refine HK.out _ _ ⟨by simp [HJ.out.sz], ⟨_, _, _, _, _, _, _, _, _, _, _, _, rfl, ?_, ?_, ?_, ?_, ?_, ?_, ?_, ?_, ?_, fun _ => rfl, ?_, ?_, HV.out.g.trans (bn.mono HV.out.g.size)⟩⟩
   all_goals exact Um (by assumption)
  ·cases HV.out.k4 (Hq hall 4).out
   cases HV.out.k9 (Hq hall 9).out
   clear hall hi
   refine wpOp_hid rfl fun K' HK => ?_
   go_simp
   refine (HCM.out w').mono ?_
   rintro e wn ⟨rfl, bn⟩
   cases HV.out
   refine HK.out _ _ ⟨by simp [HJ.out.sz], ⟨_, _, _, _, _, _, _, _, _, _, _, _, rfl, ?_, ?_, ?_, ?_, ?_, ?_, ?_, ?_, ?_, ?_, fun _ => rfl, ?_, HV.out.g.trans (bn.mono HV.out.g.size)⟩⟩
   all_goals exact Um (by assumption)
  cases HV.out.k10 (Hq hall 10).out
  rotate_left
  all_goals
   clear hall hi
   refine wpOp_hid rfl fun K' HK => ?_
   go_simp
   cases HV.out
   refine HK.out _ _ ⟨by simp [HJ.out.sz], ?_⟩
   iterate 12 apply Exists.intro
   refine ⟨rfl, ?_⟩
   constructor
   all_goals first | exact Um (by assumption) | exact Un (by assumption) | exact Uf (by assumption) | exact fun _ => rfl | assumption
theorem cmpOr_any (x y : Int) (B c : Nat) (w : World) (hB : w.heap[B]? = some (.cells #[.int .i64 x, .int .i64 y] 3 (0, 0))) :
 Calls Tryz.prog 98 #[.slice (some ⟨B, 0, none⟩) 2 c] w fun e w' => e = .returned (.int .i64 (if x = 0 then y else x)) ∧ w' = w := by
 have c0 := Lib.cell_of_heap hB 0
 have c1 := Lib.cell_of_heap hB 1
 simp at c0 c1
 clear hB
 by_cases hx : x = 0
 ·subst hx
  by_cases hy : y = 0
  ·subst hy
   go_enter Tryz.func98, Tryz.ntmps98
   go_wp2_with fail
   refine wp_loop_rounds 3 ?_
   rw [rounds_succ]
   go_wp2_with fail
   rw [rounds_succ]
   go_wp2_with fail
   rw [rounds_succ]
   go_wp2_with fail
   go_ret
   exact ⟨rfl, rfl⟩
  ·have t2 : (y == 0) = false := beq_eq_false_iff_ne.2 hy
   have t3 : (y != 0) = true := by rw [bne, t2]; rfl
   go_enter Tryz.func98, Tryz.ntmps98
   go_wp2_with fail
   refine wp_loop_rounds 3 ?_
   rw [rounds_succ]
   go_wp2_with fail
   rw [rounds_succ]
   go_wp2_with fail
   go_ret
   exact ⟨rfl, rfl⟩
 ·have t2 : (x == 0) = false := beq_eq_false_iff_ne.2 hx
  have t3 : (x != 0) = true := by rw [bne, t2]; rfl
  have HX := hI hx
  clear hx
  go_enter Tryz.func98, Tryz.ntmps98
  go_wp2_with fail
  refine wp_loop_rounds 3 ?_
  rw [rounds_succ]
  go_wp2_with fail
  go_ret
  exact ⟨by first | rfl | (rw [if_neg HX.out]; rfl), rfl⟩
structure ULV (wS : World) (x y : Lot) (u v z : Int) (bf B0 B1 : Nat) (Bn : Nat) (L : Array Bool) (W : World) (s5 s6 s7 s8 s9 s10 s11 s12 s13 s14 : Value) : Prop where
 k0 : L.getD 0 false = true → s6 = .agg #[.string x.id, .string x.inst, .int .i64 x.acq, .int .i64 x.opn, .string x.qty, .string x.cost, .string x.used]
 k1 : L.getD 1 false = true → s7 = .agg #[.string y.id, .string y.inst, .int .i64 y.acq, .int .i64 y.opn, .string y.qty, .string y.cost, .string y.used]
 k2 : L.getD 2 false = true → s8 = .int .i64 u
 k3 : L.getD 3 false = true → s9 = .func (.func 95) #[] #[]
 k4 : L.getD 4 false = true → s10 = .agg #[.string x.id, .string x.inst, .int .i64 x.acq, .int .i64 x.opn, .string x.qty, .string x.cost, .string x.used]
 k5 : L.getD 5 false = true → s11 = .agg #[.string y.id, .string y.inst, .int .i64 y.acq, .int .i64 y.opn, .string y.qty, .string y.cost, .string y.used]
 k6 : L.getD 6 false = true → s12 = .int .i64 v
 k7 : L.getD 7 false = true → s13 = .slice (some ⟨Bn, 0, none⟩) 2 2
 k8 : L.getD 8 false = true → s14 = .int .i64 z
 k9 : L.getD 9 false = true → s5 = .int .i64 z
 g : Below wS.heap.size wS W
 bx : L.getD 7 false = true → W.heap[Bn]? = some (.cells #[.int .i64 u, .int .i64 v] 3 (0, 0))
structure ULJ (wS : World) (x y : Lot) (u v z : Int) (bf B0 B1 : Nat) (x0 x1 : Value) (L : Array Bool) (a : Act) (W : World) : Prop where
 sz : L.size = 10
 fr : ∃ Bn : Nat, ∃ s5 s6 s7 s8 s9 s10 s11 s12 s13 s14 : Value, a = { tmps := #[x0, x1, .pointer (some ⟨bf, 0, none⟩), .pointer (some ⟨B0, 0, none⟩), .pointer (some ⟨B1, 0, none⟩), s5, s6, s7, s8, s9, s10, s11, s12, s13, s14], defers := [] } ∧ ULV wS x y u v z bf B0 B1 Bn L W s5 s6 s7 s8 s9 s10 s11 s12 s13 s14
def lowC (a b : Lot) : Int := if cmpI (vl a.cost * vl b.qty) (vl b.cost * vl a.qty) = 0 then cmpI a.acq b.acq else cmpI (vl a.cost * vl b.qty) (vl b.cost * vl a.qty)
theorem lowC_any (a b : Lot) (ha : a.sized) (hb : b.sized) (bf : Nat) (w : World) (hbf : w.heap[bf]? = some (.cells #[.func (.func 95) #[] #[]] 55 (0, 0))) (ht : Tabs w) : Calls Tryz.prog 97 #[a.enc, b.enc, .pointer (some ⟨bf, 0, none⟩)] w fun e w' => e = .returned (.int .i64 (lowC a b)) ∧ Below w.heap.size w w' := by
 obtain ⟨W0, W1, hW0, hW1, hB, hsz, k0, k1⟩ := lbox2 a b w
 have HK0 := hI k0
 have HK1 := hI k1
 have HB := hI hB
 have hbl : bf < w.heap.size := (Array.getElem?_eq_some_iff.1 hbf).1
 have HBF : Hid (bf < W1.heap.size ∧ W1.heap[bf]? = some (.cells #[.func (.func 95) #[] #[]] 55 (0, 0))) := ⟨Nat.lt_of_lt_of_le hbl hB.size, (hB.block bf hbl).trans hbf⟩
 have HT := hI (ht.below hB)
 obtain ⟨u, hu⟩ : ∃ u, cmpI (vl a.cost * vl b.qty) (vl b.cost * vl a.qty) = u := ⟨_, rfl⟩
 obtain ⟨v, hv⟩ : ∃ v, cmpI a.acq b.acq = v := ⟨_, rfl⟩
 obtain ⟨z, hz⟩ : ∃ z, (if u = 0 then v else u) = z := ⟨_, rfl⟩
 have hU := fun W (h : Below W1.heap.size W1 W) => unit_any a b ha hb W (HT.out.below h)
 rw [hu] at hU
 have hF := fun W => first_any a b W
 rw [hv] at hF
 have hO := fun B c W h => cmpOr_any u v B c W h
 rw [hz] at hO
 have HZ : Hid (lowC a b = z) := by unfold lowC; rw [Hid, hu, hv, hz]
 have hgS : Below W1.heap.size W1 W1.drew := (Below.refl _ _).drew
 clear k0 k1 hB ht hu hv hz hbf hbl ha hb
 unfold Lot.enc Lot.cells at *
 have HU := hI hU
 have HFI := hI hF
 have HOR := hI hO
 clear hU hF hO
 go_enter Tryz.func97, Tryz.ntmps97
 go_upto_region 1 with fail
 have mixed : Tryz.prog.follows .mixedOrders = true := by kernel_rfl
 refine wp_region_any mixed (wpAny_inv (ULJ W1 a b u v z bf w.heap.size (w.heap.size + 1) _ _) ?stUL ?dnUL _ _ _ _ ⟨by simp, ⟨0, _, _, _, _, _, _, _, _, _, _, rfl, fun h => by simp at h, fun h => by simp at h, fun h => by simp at h, fun h => by simp at h, fun h => by simp at h, fun h => by simp at h, fun h => by simp at h, fun h => by simp at h, fun h => by simp at h, fun h => by simp at h, hgS, fun h => by simp at h⟩⟩ (by decide))
 case dnUL =>
  intro L a w' hj hr
  have all := all_on hr hj.sz (by kernel_rfl)
  obtain ⟨Bn, s5, s6, s7, s8, s9, s10, s11, s12, s13, s14, rfl, hv⟩ := hj.fr
  have e9 := hv.k9 (all 9 (by omega))
  subst e9
  have HF := hI (HB.out.trans (hv.g.mono HB.out.size))
  clear all hv hj hr
  go_wp2_with fail
  go_ret
  exact ⟨by rw [HZ.out]; rfl, HF.out⟩
 case stUL =>
  intro L a w' hj i hi
  obtain ⟨hun, o, ho, hall⟩ := mem_ready.1 hi
  have hoff := getD_off hun
  have hlt := (Array.getElem?_eq_some_iff.1 ho).1
  simp at hlt
  obtain ⟨Bn, s5, s6, s7, s8, s9, s10, s11, s12, s13, s14, rfl, hv⟩ := hj.fr
  have HV := hI hv
  have HJ := hI hj
  clear hv hj
  rcases (show i = 0 ∨ i = 1 ∨ i = 2 ∨ i = 3 ∨ i = 4 ∨ i = 5 ∨ i = 6 ∨ i = 7 ∨ i = 8 ∨ i = 9 from by omega) with rfl | rfl | rfl | rfl | rfl | rfl | rfl | rfl | rfl | rfl
  all_goals simp at ho
  all_goals subst ho
  have hk := HK0.out.below HV.out.g
  have c0 := Lib.cell_of_heap hk 0
  have c1 := Lib.cell_of_heap hk 1
  have c2 := Lib.cell_of_heap hk 2
  have c3 := Lib.cell_of_heap hk 3
  have c4 := Lib.cell_of_heap hk 4
  have c5 := Lib.cell_of_heap hk 5
  have c6 := Lib.cell_of_heap hk 6
  simp [Lot.cells] at c0 c1 c2 c3 c4 c5 c6
  rotate_left
  have hk := HK1.out.below HV.out.g
  have c0 := Lib.cell_of_heap hk 0
  have c1 := Lib.cell_of_heap hk 1
  have c2 := Lib.cell_of_heap hk 2
  have c3 := Lib.cell_of_heap hk 3
  have c4 := Lib.cell_of_heap hk 4
  have c5 := Lib.cell_of_heap hk 5
  have c6 := Lib.cell_of_heap hk 6
  simp [Lot.cells] at c0 c1 c2 c3 c4 c5 c6
  rotate_left
  ·cases HV.out.k0 (Hq hall 0).out
   cases HV.out.k1 (Hq hall 1).out
   clear hall hi
   refine wpOp_hid rfl fun K' HK => ?_
   go_simp
   refine (HU.out w' HV.out.g).mono ?_
   rintro e wn ⟨rfl, bn⟩
   exact HK.out _ _ ⟨by simp [HJ.out.sz], ⟨_, _, _, _, _, _, _, _, _, _, _, rfl, Um HV.out.k0, Um HV.out.k1, fun _ => rfl, Um HV.out.k3, Um HV.out.k4, Um HV.out.k5, Um HV.out.k6, Um HV.out.k7, Um HV.out.k8, Um HV.out.k9, HV.out.g.trans (bn.mono HV.out.g.size), fun h => (bn.block Bn (Array.getElem?_eq_some_iff.1 (HV.out.bx (Uz h))).1).trans (HV.out.bx (Uz h))⟩⟩
  have c0 := Lib.cell_of_heap ((HV.out.g.block _ HBF.out.1).trans HBF.out.2) 0
  simp at c0
  rotate_left
  have hk := HK0.out.below HV.out.g
  have c0 := Lib.cell_of_heap hk 0
  have c1 := Lib.cell_of_heap hk 1
  have c2 := Lib.cell_of_heap hk 2
  have c3 := Lib.cell_of_heap hk 3
  have c4 := Lib.cell_of_heap hk 4
  have c5 := Lib.cell_of_heap hk 5
  have c6 := Lib.cell_of_heap hk 6
  simp [Lot.cells] at c0 c1 c2 c3 c4 c5 c6
  rotate_left
  have hk := HK1.out.below HV.out.g
  have c0 := Lib.cell_of_heap hk 0
  have c1 := Lib.cell_of_heap hk 1
  have c2 := Lib.cell_of_heap hk 2
  have c3 := Lib.cell_of_heap hk 3
  have c4 := Lib.cell_of_heap hk 4
  have c5 := Lib.cell_of_heap hk 5
  have c6 := Lib.cell_of_heap hk 6
  simp [Lot.cells] at c0 c1 c2 c3 c4 c5 c6
  rotate_left
  ·cases HV.out.k3 (Hq hall 3).out
   cases HV.out.k4 (Hq hall 4).out
   cases HV.out.k5 (Hq hall 5).out
   clear hall hi
   refine wpOp_hid rfl fun K' HK => ?_
   go_simp
   refine (HFI.out w').mono ?_
   rintro e wn ⟨rfl, bn⟩
   exact HK.out _ _ ⟨by simp [HJ.out.sz], ⟨_, _, _, _, _, _, _, _, _, _, _, rfl, Um HV.out.k0, Um HV.out.k1, Um HV.out.k2, Um HV.out.k3, Um HV.out.k4, Um HV.out.k5, fun _ => rfl, Um HV.out.k7, Um HV.out.k8, Um HV.out.k9, HV.out.g.trans (bn.mono HV.out.g.size), fun h => (bn.block Bn (Array.getElem?_eq_some_iff.1 (HV.out.bx (Uz h))).1).trans (HV.out.bx (Uz h))⟩⟩
  ·cases HV.out.k2 (Hq hall 2).out
   cases HV.out.k6 (Hq hall 6).out
   clear hall hi
   have ba : Below w'.heap.size w' (w'.alloc (.cells #[.int .i64 u, .int .i64 v] 3)) := (Below.refl _ _).alloc (Nat.le_refl _) _
   refine wpOp_hid rfl fun K' HK => ?_
   go_simp
   exact HK.out _ _ ⟨by simp [HJ.out.sz], ⟨w'.heap.size, _, _, _, _, _, _, _, _, _, _, rfl, Um HV.out.k0, Um HV.out.k1, Um HV.out.k2, Um HV.out.k3, Um HV.out.k4, Um HV.out.k5, Um HV.out.k6, fun _ => rfl, Um HV.out.k8, Um HV.out.k9, HV.out.g.trans (ba.mono HV.out.g.size), fun _ => heap_alloc_new _ _⟩⟩
  ·have H7 := Hq hall 7
   cases HV.out.k7 (Hq hall 7).out
   clear hall hi
   refine wpOp_hid rfl fun K' HK => ?_
   go_simp
   refine (HOR.out _ _ w' (HV.out.bx H7.out)).mono ?_
   rintro e wn ⟨rfl, rfl⟩
   cases HV.out
   refine HK.out _ _ ⟨by simp [HJ.out.sz], ?_⟩
   iterate 11 apply Exists.intro
   refine ⟨rfl, ?_⟩
   constructor
   case k8 => exact fun _ => rfl
   case g => exact HV.out.g
   all_goals exact Um (by assumption)
  cases HV.out.k8 (Hq hall 8).out
  rotate_left
  all_goals
   clear hall hi
   refine wpOp_hid rfl fun K' HK => ?_
   go_simp
   cases HV.out
   refine HK.out _ _ ⟨by simp [HJ.out.sz], ?_⟩
   iterate 11 apply Exists.intro
   refine ⟨rfl, ?_⟩
   constructor
   all_goals first | exact Um (by assumption) | exact Un (by assumption) | exact Uf (by assumption) | exact fun _ => rfl | assumption
structure UHV (wS : World) (x y : Lot) (u v z : Int) (bf B0 B1 : Nat) (Bn : Nat) (L : Array Bool) (W : World) (s5 s6 s7 s8 s9 s10 s11 s12 s13 s14 : Value) : Prop where
 k0 : L.getD 0 false = true → s6 = .agg #[.string y.id, .string y.inst, .int .i64 y.acq, .int .i64 y.opn, .string y.qty, .string y.cost, .string y.used]
 k1 : L.getD 1 false = true → s7 = .agg #[.string x.id, .string x.inst, .int .i64 x.acq, .int .i64 x.opn, .string x.qty, .string x.cost, .string x.used]
 k2 : L.getD 2 false = true → s8 = .int .i64 u
 k3 : L.getD 3 false = true → s9 = .func (.func 95) #[] #[]
 k4 : L.getD 4 false = true → s10 = .agg #[.string x.id, .string x.inst, .int .i64 x.acq, .int .i64 x.opn, .string x.qty, .string x.cost, .string x.used]
 k5 : L.getD 5 false = true → s11 = .agg #[.string y.id, .string y.inst, .int .i64 y.acq, .int .i64 y.opn, .string y.qty, .string y.cost, .string y.used]
 k6 : L.getD 6 false = true → s12 = .int .i64 v
 k7 : L.getD 7 false = true → s13 = .slice (some ⟨Bn, 0, none⟩) 2 2
 k8 : L.getD 8 false = true → s14 = .int .i64 z
 k9 : L.getD 9 false = true → s5 = .int .i64 z
 g : Below wS.heap.size wS W
 bx : L.getD 7 false = true → W.heap[Bn]? = some (.cells #[.int .i64 u, .int .i64 v] 3 (0, 0))
structure UHJ (wS : World) (x y : Lot) (u v z : Int) (bf B0 B1 : Nat) (x0 x1 : Value) (L : Array Bool) (a : Act) (W : World) : Prop where
 sz : L.size = 10
 fr : ∃ Bn : Nat, ∃ s5 s6 s7 s8 s9 s10 s11 s12 s13 s14 : Value, a = { tmps := #[x0, x1, .pointer (some ⟨bf, 0, none⟩), .pointer (some ⟨B0, 0, none⟩), .pointer (some ⟨B1, 0, none⟩), s5, s6, s7, s8, s9, s10, s11, s12, s13, s14], defers := [] } ∧ UHV wS x y u v z bf B0 B1 Bn L W s5 s6 s7 s8 s9 s10 s11 s12 s13 s14
def highC (a b : Lot) : Int := if cmpI (vl b.cost * vl a.qty) (vl a.cost * vl b.qty) = 0 then cmpI a.acq b.acq else cmpI (vl b.cost * vl a.qty) (vl a.cost * vl b.qty)
theorem highC_any (a b : Lot) (ha : a.sized) (hb : b.sized) (bf : Nat) (w : World) (hbf : w.heap[bf]? = some (.cells #[.func (.func 95) #[] #[]] 55 (0, 0))) (ht : Tabs w) : Calls Tryz.prog 100 #[a.enc, b.enc, .pointer (some ⟨bf, 0, none⟩)] w fun e w' => e = .returned (.int .i64 (highC a b)) ∧ Below w.heap.size w w' := by
 obtain ⟨W0, W1, hW0, hW1, hB, hsz, k0, k1⟩ := lbox2 a b w
 have HK0 := hI k0
 have HK1 := hI k1
 have HB := hI hB
 have hbl : bf < w.heap.size := (Array.getElem?_eq_some_iff.1 hbf).1
 have HBF : Hid (bf < W1.heap.size ∧ W1.heap[bf]? = some (.cells #[.func (.func 95) #[] #[]] 55 (0, 0))) := ⟨Nat.lt_of_lt_of_le hbl hB.size, (hB.block bf hbl).trans hbf⟩
 have HT := hI (ht.below hB)
 obtain ⟨u, hu⟩ : ∃ u, cmpI (vl b.cost * vl a.qty) (vl a.cost * vl b.qty) = u := ⟨_, rfl⟩
 obtain ⟨v, hv⟩ : ∃ v, cmpI a.acq b.acq = v := ⟨_, rfl⟩
 obtain ⟨z, hz⟩ : ∃ z, (if u = 0 then v else u) = z := ⟨_, rfl⟩
 have hU := fun W (h : Below W1.heap.size W1 W) => unit_any b a hb ha W (HT.out.below h)
 rw [hu] at hU
 have hF := fun W => first_any a b W
 rw [hv] at hF
 have hO := fun B c W h => cmpOr_any u v B c W h
 rw [hz] at hO
 have HZ : Hid (highC a b = z) := by unfold highC; rw [Hid, hu, hv, hz]
 have hgS : Below W1.heap.size W1 W1.drew := (Below.refl _ _).drew
 clear k0 k1 hB ht hu hv hz hbf hbl ha hb
 unfold Lot.enc Lot.cells at *
 have HU := hI hU
 have HFI := hI hF
 have HOR := hI hO
 clear hU hF hO
 go_enter Tryz.func100, Tryz.ntmps100
 go_upto_region 1 with fail
 have mixed : Tryz.prog.follows .mixedOrders = true := by kernel_rfl
 refine wp_region_any mixed (wpAny_inv (UHJ W1 a b u v z bf w.heap.size (w.heap.size + 1) _ _) ?stUH ?dnUH _ _ _ _ ⟨by simp, ⟨0, _, _, _, _, _, _, _, _, _, _, rfl, fun h => by simp at h, fun h => by simp at h, fun h => by simp at h, fun h => by simp at h, fun h => by simp at h, fun h => by simp at h, fun h => by simp at h, fun h => by simp at h, fun h => by simp at h, fun h => by simp at h, hgS, fun h => by simp at h⟩⟩ (by decide))
 case dnUH =>
  intro L a w' hj hr
  have all := all_on hr hj.sz (by kernel_rfl)
  obtain ⟨Bn, s5, s6, s7, s8, s9, s10, s11, s12, s13, s14, rfl, hv⟩ := hj.fr
  have e9 := hv.k9 (all 9 (by omega))
  subst e9
  have HF := hI (HB.out.trans (hv.g.mono HB.out.size))
  clear all hv hj hr
  go_wp2_with fail
  go_ret
  exact ⟨by rw [HZ.out]; rfl, HF.out⟩
 case stUH =>
  intro L a w' hj i hi
  obtain ⟨hun, o, ho, hall⟩ := mem_ready.1 hi
  have hoff := getD_off hun
  have hlt := (Array.getElem?_eq_some_iff.1 ho).1
  simp at hlt
  obtain ⟨Bn, s5, s6, s7, s8, s9, s10, s11, s12, s13, s14, rfl, hv⟩ := hj.fr
  have HV := hI hv
  have HJ := hI hj
  clear hv hj
  rcases (show i = 0 ∨ i = 1 ∨ i = 2 ∨ i = 3 ∨ i = 4 ∨ i = 5 ∨ i = 6 ∨ i = 7 ∨ i = 8 ∨ i = 9 from by omega) with rfl | rfl | rfl | rfl | rfl | rfl | rfl | rfl | rfl | rfl
  all_goals simp at ho
  all_goals subst ho
  have hk := HK1.out.below HV.out.g
  have c0 := Lib.cell_of_heap hk 0
  have c1 := Lib.cell_of_heap hk 1
  have c2 := Lib.cell_of_heap hk 2
  have c3 := Lib.cell_of_heap hk 3
  have c4 := Lib.cell_of_heap hk 4
  have c5 := Lib.cell_of_heap hk 5
  have c6 := Lib.cell_of_heap hk 6
  simp [Lot.cells] at c0 c1 c2 c3 c4 c5 c6
  rotate_left
  have hk := HK0.out.below HV.out.g
  have c0 := Lib.cell_of_heap hk 0
  have c1 := Lib.cell_of_heap hk 1
  have c2 := Lib.cell_of_heap hk 2
  have c3 := Lib.cell_of_heap hk 3
  have c4 := Lib.cell_of_heap hk 4
  have c5 := Lib.cell_of_heap hk 5
  have c6 := Lib.cell_of_heap hk 6
  simp [Lot.cells] at c0 c1 c2 c3 c4 c5 c6
  rotate_left
  ·cases HV.out.k0 (Hq hall 0).out
   cases HV.out.k1 (Hq hall 1).out
   clear hall hi
   refine wpOp_hid rfl fun K' HK => ?_
   go_simp
   refine (HU.out w' HV.out.g).mono ?_
   rintro e wn ⟨rfl, bn⟩
   exact HK.out _ _ ⟨by simp [HJ.out.sz], ⟨_, _, _, _, _, _, _, _, _, _, _, rfl, Um HV.out.k0, Um HV.out.k1, fun _ => rfl, Um HV.out.k3, Um HV.out.k4, Um HV.out.k5, Um HV.out.k6, Um HV.out.k7, Um HV.out.k8, Um HV.out.k9, HV.out.g.trans (bn.mono HV.out.g.size), fun h => (bn.block Bn (Array.getElem?_eq_some_iff.1 (HV.out.bx (Uz h))).1).trans (HV.out.bx (Uz h))⟩⟩
  have c0 := Lib.cell_of_heap ((HV.out.g.block _ HBF.out.1).trans HBF.out.2) 0
  simp at c0
  rotate_left
  have hk := HK0.out.below HV.out.g
  have c0 := Lib.cell_of_heap hk 0
  have c1 := Lib.cell_of_heap hk 1
  have c2 := Lib.cell_of_heap hk 2
  have c3 := Lib.cell_of_heap hk 3
  have c4 := Lib.cell_of_heap hk 4
  have c5 := Lib.cell_of_heap hk 5
  have c6 := Lib.cell_of_heap hk 6
  simp [Lot.cells] at c0 c1 c2 c3 c4 c5 c6
  rotate_left
  have hk := HK1.out.below HV.out.g
  have c0 := Lib.cell_of_heap hk 0
  have c1 := Lib.cell_of_heap hk 1
  have c2 := Lib.cell_of_heap hk 2
  have c3 := Lib.cell_of_heap hk 3
  have c4 := Lib.cell_of_heap hk 4
  have c5 := Lib.cell_of_heap hk 5
  have c6 := Lib.cell_of_heap hk 6
  simp [Lot.cells] at c0 c1 c2 c3 c4 c5 c6
  rotate_left
  ·cases HV.out.k3 (Hq hall 3).out
   cases HV.out.k4 (Hq hall 4).out
   cases HV.out.k5 (Hq hall 5).out
   clear hall hi
   refine wpOp_hid rfl fun K' HK => ?_
   go_simp
   refine (HFI.out w').mono ?_
   rintro e wn ⟨rfl, bn⟩
   exact HK.out _ _ ⟨by simp [HJ.out.sz], ⟨_, _, _, _, _, _, _, _, _, _, _, rfl, Um HV.out.k0, Um HV.out.k1, Um HV.out.k2, Um HV.out.k3, Um HV.out.k4, Um HV.out.k5, fun _ => rfl, Um HV.out.k7, Um HV.out.k8, Um HV.out.k9, HV.out.g.trans (bn.mono HV.out.g.size), fun h => (bn.block Bn (Array.getElem?_eq_some_iff.1 (HV.out.bx (Uz h))).1).trans (HV.out.bx (Uz h))⟩⟩
  ·cases HV.out.k2 (Hq hall 2).out
   cases HV.out.k6 (Hq hall 6).out
   clear hall hi
   have ba : Below w'.heap.size w' (w'.alloc (.cells #[.int .i64 u, .int .i64 v] 3)) := (Below.refl _ _).alloc (Nat.le_refl _) _
   refine wpOp_hid rfl fun K' HK => ?_
   go_simp
   exact HK.out _ _ ⟨by simp [HJ.out.sz], ⟨w'.heap.size, _, _, _, _, _, _, _, _, _, _, rfl, Um HV.out.k0, Um HV.out.k1, Um HV.out.k2, Um HV.out.k3, Um HV.out.k4, Um HV.out.k5, Um HV.out.k6, fun _ => rfl, Um HV.out.k8, Um HV.out.k9, HV.out.g.trans (ba.mono HV.out.g.size), fun _ => heap_alloc_new _ _⟩⟩
  ·have H7 := Hq hall 7
   cases HV.out.k7 (Hq hall 7).out
   clear hall hi
   refine wpOp_hid rfl fun K' HK => ?_
   go_simp
   refine (HOR.out _ _ w' (HV.out.bx H7.out)).mono ?_
   rintro e wn ⟨rfl, rfl⟩
   cases HV.out
   refine HK.out _ _ ⟨by simp [HJ.out.sz], ?_⟩
   iterate 11 apply Exists.intro
   refine ⟨rfl, ?_⟩
   constructor
   case k8 => exact fun _ => rfl
   case g => exact HV.out.g
   all_goals exact Um (by assumption)
  cases HV.out.k8 (Hq hall 8).out
  rotate_left
  all_goals
   clear hall hi
   refine wpOp_hid rfl fun K' HK => ?_
   go_simp
   cases HV.out
   refine HK.out _ _ ⟨by simp [HJ.out.sz], ?_⟩
   iterate 11 apply Exists.intro
   refine ⟨rfl, ?_⟩
   constructor
   all_goals first | exact Um (by assumption) | exact Un (by assumption) | exact Uf (by assumption) | exact fun _ => rfl | assumption
def cfM (m : Int) : Lot → Lot → Int := if m = 3 then highC else if m = 4 then lowC else fun a b => cmpI a.acq b.acq
theorem cfM_lt (m : Int) {a b : Lot} (ha : 0 < vl a.qty) (hb : 0 < vl b.qty) : decide (cfM m a b < 0) = ltM m a b := by
 unfold cfM ltM
 have hF : ltF a b = decide (a.acq < b.acq) := rfl
 have cF : cmpI a.acq b.acq < 0 ↔ a.acq < b.acq := cmpI_lt
 by_cases h3 : m = 3
 ·rw [if_pos h3, if_pos h3]
  unfold highC ltH ltK
  rw [qpos_of ha, qpos_of hb]
  refine decide_eq_decide.2 ?_
  rw [Int.neg_mul, Int.neg_mul]
  generalize vl b.cost * vl a.qty = u
  generalize vl a.cost * vl b.qty = v
  have c1 : cmpI u v < 0 ↔ u < v := cmpI_lt
  have c3 : cmpI u v = 0 ↔ u = v := cmpI_eq
  split <;> omega
 ·rw [if_neg h3, if_neg h3]
  by_cases h4 : m = 4
  ·rw [if_pos h4, if_pos h4]
   unfold lowC ltL ltK
   rw [qpos_of ha, qpos_of hb]
   refine decide_eq_decide.2 ?_
   generalize vl b.cost * vl a.qty = u
   generalize vl a.cost * vl b.qty = v
   have c1 : cmpI v u < 0 ↔ v < u := cmpI_lt
   have c3 : cmpI v u = 0 ↔ v = u := cmpI_eq
   split <;> omega
  ·rw [if_neg h4, if_neg h4, hF]
   exact decide_eq_decide.2 cF
def fnM (m : Int) : Nat := if m = 3 then 100 else if m = 4 then 97 else 95
def bdM (m : Int) (bf : Nat) : Array Value := if m = 3 ∨ m = 4 then #[.pointer (some ⟨bf, 0, none⟩)] else #[]
def okL (l : Lot) : Prop := l.sized ∧ 0 < vl l.qty
theorem cmpS_any (m : Int) (bf : Nat) (w00 w0 : World) (g : Nat) (ht : Tabs w00) (hb : Below w00.heap.size w00 w0) (hg : w00.heap.size ≤ g) (hbf : w0.heap[bf]? = some (.cells #[.func (.func 95) #[] #[]] 55 (0, 0))) (hne : bf ≠ g) :
 CmpS okL (cfM m) (fnM m) (bdM m bf) w0 g := by
 have hT : ∀ W, w0.grownBy W (some g) → Tabs W := fun W h => ht.below (hb.grown h hb.size (fun k hk => by injection hk with hk; rw [← hk]; exact hg))
 have hF : ∀ W, w0.grownBy W (some g) → W.heap[bf]? = some (.cells #[.func (.func 95) #[] #[]] 55 (0, 0)) := fun W h => (h.block bf (Array.getElem?_eq_some_iff.1 hbf).1 (fun e => hne (by injection e))).trans hbf
 by_cases h3 : m = 3
 ·subst h3
  have e1 : cfM 3 = highC := by unfold cfM; rw [if_pos rfl]
  have e2 : fnM 3 = 100 := rfl
  have e3 : bdM 3 bf = #[.pointer (some ⟨bf, 0, none⟩)] := by unfold bdM; rw [if_pos (Or.inl rfl)]
  rw [e1, e2, e3]
  exact ⟨enters_of Tryz.func100 (by kernel_rfl) rfl, fun W hW a b ha hb => highC_any a b ha.1 hb.1 bf W (hF W hW) (hT W hW)⟩
 ·by_cases h4 : m = 4
  ·subst h4
   have e1 : cfM 4 = lowC := by unfold cfM; rw [if_neg h3, if_pos rfl]
   have e2 : fnM 4 = 97 := rfl
   have e3 : bdM 4 bf = #[.pointer (some ⟨bf, 0, none⟩)] := by unfold bdM; rw [if_pos (Or.inr rfl)]
   rw [e1, e2, e3]
   exact ⟨enters_of Tryz.func97 (by kernel_rfl) rfl, fun W hW a b ha hb => lowC_any a b ha.1 hb.1 bf W (hF W hW) (hT W hW)⟩
  ·have e1 : cfM m = fun a b => cmpI a.acq b.acq := by unfold cfM; rw [if_neg h3, if_neg h4]
   have e2 : fnM m = 95 := by unfold fnM; rw [if_neg h3, if_neg h4]
   have e3 : bdM m bf = #[] := by unfold bdM; rw [if_neg (fun h => h.elim h3 h4)]
   rw [e1, e2, e3]
   exact ⟨enters_of Tryz.func95 (by kernel_rfl) rfl, fun W hW a b ha hb => first_any a b W⟩
theorem sl_lo (A : Option Addr) (N c k : Nat) (hA : A = none → N = 0 ∧ c = 0) (hk : k ≤ N) (hc : N ≤ c) (W : World) : (Instr.sliceAt 22 (.slice A N c) none (some (.int .i64 (k : Int))) none).run Tryz.prog W = .ok (.slice A k c) W := by
 cases A with
 | some ad => exact lslice_lo W ad N c k (by omega)
 | none =>
   obtain ⟨rfl, rfl⟩ := hA rfl
   obtain rfl : k = 0 := by omega
   kernel_rfl
theorem sl_hi (A : Option Addr) (N c k : Nat) (hA : A = none → N = 0 ∧ c = 0) (hk : k ≤ N) (hc : N ≤ c) : ∃ A2, (∀ W, (Instr.sliceAt 22 (.slice A N c) (some (.int .i64 (k : Int))) none none).run Tryz.prog W = .ok (.slice A2 (N - k) (c - k)) W) ∧ (A2 = none → N - k = 0 ∧ c - k = 0) ∧
 ∀ n w ls, RdB n w A ls → ls.length = N → RdB n w A2 (ls.drop k) := by
 cases A with
 | some ad => exact ⟨_, fun W => lslice_hi W ad N c k hk, (fun e => by cases e), fun n w ls h hl => h.drop k (by omega) (by omega)⟩
 | none =>
   obtain ⟨rfl, rfl⟩ := hA rfl
   obtain rfl : k = 0 := by omega
   exact ⟨none, fun W => lslice_nil W, fun _ => ⟨rfl, rfl⟩, fun n w ls h hl => h⟩
theorem app_lots (w : World) (base : Nat) (v : Value) (n : Nat) (xs : List Value) (hown : w.ownsRow base 48 7 v n xs) (A : Option Addr) (m c : Nat) (ls : List SLot) (n₁ : Nat) (hR : RdB n₁ w A ls) (hl : ls.length = m) (hA : A = none → m = 0 ∧ c = 0) (hnm : n + m ≤ 200000) (hb : base ≤ w.heap.size) :
 ∃ v' w', (Builtin.append_ #[22, 22] 22 #[v, .slice A m c]).run Tryz.prog w = .ok v' w' ∧ w'.ownsRow base 48 7 v' (n + m) (xs ++ flatL ls) ∧ w.grownBy w' v.ownBlock := by
 obtain ⟨i0, hi0, hz0, hz1, hz2⟩ := info_parts Tryz.infoLot
 cases A with
 | some ad =>
   obtain ⟨v', w', h1, h2, h3, _⟩ := run_append_own (P := Tryz.prog) w base 22 22 48 i0 _ 7 96 Tryz.underlying22 hi0 hz0 hz1 hz2 rfl (by decide) v n xs hown ad m c (flatL ls) (by rw [flatL_len, hl]) hR.flat (flatL_one _) (by unfold maxLen; omega) (by omega) hb
   exact ⟨v', w', h1, h2, h3⟩
 | none =>
   obtain ⟨rfl, rfl⟩ := hA rfl
   obtain rfl : ls = [] := List.eq_nil_of_length_eq_zero hl
   refine ⟨v, w, ?_, by simpa [flatL] using hown, ⟨rfl, rfl, rfl, Nat.le_refl _, fun _ _ _ => rfl⟩⟩
   rcases hown.2 with ⟨rfl, rfl⟩ | ⟨g, cap, cur, rfl, hbg, hg, hnc, _, _, _⟩
   ·simp [Builtin.append_, run_underlying Tryz.underlying22, sizeOf, typeInfo, hi0, Builtin.lenOf, Builtin.firstCells, loadCells, loadCellsFrom]
   ·simp [Builtin.append_, run_underlying Tryz.underlying22, sizeOf, typeInfo, hi0, Builtin.lenOf, Builtin.firstCells, loadCells, loadCellsFrom, hnc, storeCells]
theorem app_one (w : World) (base : Nat) (v : Value) (n : Nat) (xs : List Value) (hown : w.ownsRow base 48 7 v n xs) (B cB : Nat) (x : Lot) (hx : LotBox w B x) (hn : n ≤ 200000) (hb : base ≤ w.heap.size) :
 ∃ v' w', (Builtin.append_ #[22, 22] 22 #[v, .slice (some ⟨B, 0, none⟩) 1 cB]).run Tryz.prog w = .ok v' w' ∧ w'.ownsRow base 48 7 v' (n + 1) (xs ++ x.cells.toList) ∧ w.grownBy w' v.ownBlock := by
 obtain ⟨i0, hi0, hz0, hz1, hz2⟩ := info_parts Tryz.infoLot
 obtain ⟨v', w', h1, h2, h3, _⟩ := run_append_own (P := Tryz.prog) w base 22 22 48 i0 _ 7 96 Tryz.underlying22 hi0 hz0 hz1 hz2 rfl (by decide) v n xs hown ⟨B, 0, none⟩ 1 cB x.cells.toList rfl (lotbox_src hx) (lotcells_one x) (by unfold maxLen; omega) (by omega) hb
 exact ⟨v', w', h1, h2, h3⟩
theorem rotC_any (V : Lot → Prop) (w0 : World) (g N c a m b f : Nat) (bd : Array Value) (sp : List Value) (P L R Q : List Lot) (hN : (P ++ (L ++ (R ++ Q))).length = N) (hm : N ≤ 1000000) (ha : P.length = a) (hl : a + L.length = m) (hr : m + R.length = b) (h0 : a < m) (h1 : m < b) (w : World) (hrow : SRow V w0 g sp (P ++ (L ++ (R ++ Q))) w) :
 Calls Tryz.prog 162 #[.slice (some ⟨g, 0, none⟩) N c, .int .i64 (a : Int), .int .i64 (m : Int), .int .i64 (b : Int), .func (.func f) #[] bd] w fun e w' => e = .returned (.tuple #[]) ∧ SRow V w0 g sp (P ++ (R ++ (L ++ Q))) w' := by
 have hbN : b ≤ N := by rw [← hN]; simp; omega
 have HST : Hid (RotSt (P ++ (R ++ (L ++ Q))) m (m - a) (b - m) (P ++ (L ++ (R ++ Q)))) := ⟨P, L, R, Q, rfl, rfl, by omega, by omega, by omega, by omega, by omega⟩
 obtain ⟨T, hT⟩ : ∃ T, P ++ (R ++ (L ++ Q)) = T := ⟨_, rfl⟩
 obtain ⟨D0, hD0⟩ : ∃ D, P ++ (L ++ (R ++ Q)) = D := ⟨_, rfl⟩
 rw [hT] at HST ⊢
 rw [hD0] at HST hrow hN
 obtain ⟨i0, hi0⟩ : ∃ i, i + a = m := ⟨m - a, by omega⟩
 obtain ⟨j0, hj0⟩ : ∃ j, j + m = b := ⟨b - m, by omega⟩
 rw [show m - a = i0 from by omega, show b - m = j0 from by omega] at HST
 have hw1 : IntKind.i64.wrap ((m : Int) - (a : Int)) = (i0 : Int) := by rw [IntKind.wrap_i64]; omega
 have hw2 : IntKind.i64.wrap ((b : Int) - (m : Int)) = (j0 : Int) := by rw [IntKind.wrap_i64]; omega
 have HROW := hI hrow
 have HNN := hI hN
 have HB : Hid (m + j0 ≤ N ∧ i0 ≤ m ∧ 0 < i0 ∧ 0 < j0) := ⟨by omega, by omega, by omega, by omega⟩
 clear hrow hN hT hD0 ha hl hr h0 h1 hbN hi0 hj0
 go_enter Tryz.func162, Tryz.ntmps162
 go_wp2_with fail
 go_loopw [10, 11] (fun v10 v11 wr => ∃ (i j : Nat) (D : List Lot), v10 = .int .i64 (i : Int) ∧ v11 = .int .i64 (j : Int) ∧ D.length = N ∧ m + j ≤ N ∧ i ≤ m ∧ 0 < i ∧ 0 < j ∧ RotSt T m i j D ∧ SRow V w0 g sp D wr) (fun v10 v11 _ => (intOf v10).toNat + (intOf v11).toNat)
 case atStart => exact ⟨i0, j0, D0, rfl, rfl, HNN.out, HB.out.1, HB.out.2.1, HB.out.2.2.1, HB.out.2.2.2, HST.out, HROW.out⟩
 case round =>
  clear hw1 hw2 HB HST HROW
  obtain ⟨i, j, D, rfl, rfl, hlen, hjN, him, hi, hj, hst, hrow⟩ := hrel
  have HR := hI hrow
  have HS := hI hst
  have HLEN := hI hlen
  obtain ⟨q, hq⟩ : ∃ q, q + i = m := ⟨m - i, by omega⟩
  have HQ := hI hq
  have hw1 : IntKind.i64.wrap ((m : Int) - (i : Int)) = (q : Int) := by rw [IntKind.wrap_i64]; omega
  clear hrow hst hlen
  rcases Nat.lt_trichotomy i j with hij | hij | hij
  ·have t1 : ((i : Int) == (j : Int)) = false := beq_eq_false_iff_ne.2 (by omega)
   have t2 : ((i : Int) != (j : Int)) = true := by rw [bne, t1]; rfl
   have t3 : decide ((i : Int) > (j : Int)) = false := decide_eq_false (by omega)
   have t4 : decide ((j : Int) < (i : Int)) = false := t3
   obtain ⟨u, hu⟩ : ∃ u, u = m + j := ⟨_, rfl⟩
   obtain ⟨v, hv⟩ : ∃ v, v + i = u := ⟨u - i, by omega⟩
   obtain ⟨r, hr⟩ : ∃ r, r + i = j := ⟨j - i, by omega⟩
   have hw2 : IntKind.i64.wrap ((m : Int) + (j : Int)) = (u : Int) := by rw [IntKind.wrap_i64]; omega
   have hw3 : IntKind.i64.wrap ((u : Int) - (i : Int)) = (v : Int) := by rw [IntKind.wrap_i64]; omega
   have hw4 : IntKind.i64.wrap ((j : Int) - (i : Int)) = (r : Int) := by rw [IntKind.wrap_i64]; omega
   have HCALL := hI (swapR_any V w0 g N c q v i f bd sp D HLEN.out hm (by omega) (by omega) (.inl (by omega)) wr HR.out)
   have HST2 : Hid (RotSt T m i r (swR D q v i)) := by
    have h := HS.out.right hij
    rw [show m - i = q from by omega, show m + j - i = v from by omega, show j - i = r from by omega] at h
    exact h
   have HUV : Hid (r + i = j) := hr
   clear hu hv hr hq
   go_wp2_with fail
   refine HCALL.out.mono ?_
   rintro e w1 ⟨rfl, hr1⟩
   have HR1 := hI hr1
   clear hr1
   go_wp2_with fail
   go_roundw
   case rel => exact ⟨i, r, _, rfl, rfl, by rw [swR_len]; exact HLEN.out, by have := HUV.out; omega, him, hi, by have := HUV.out; omega, HST2.out, HR1.out⟩
   case measure => have := HUV.out; simp [intOf]; omega
  ·subst hij
   have t1 : ((i : Int) == (i : Int)) = true := by simp
   have t2 : ((i : Int) != (i : Int)) = false := by simp
   have HCALL := hI (swapR_any V w0 g N c q m i f bd sp D HLEN.out hm (by omega) (by omega) (.inl (by omega)) wr HR.out)
   have HF : Hid (swR D q m i = T) := by
    have h := HS.out.done
    rw [show m - i = q from by omega] at h
    exact h
   clear hq
   go_wp2_with fail
   refine HCALL.out.mono ?_
   rintro e w1 ⟨rfl, hr1⟩
   have HR1 := hI (hr1.same HF.out)
   clear hr1
   go_wp2_with fail
   go_end0
   exact ⟨rfl, HR1.out⟩
  ·have t1 : ((i : Int) == (j : Int)) = false := beq_eq_false_iff_ne.2 (by omega)
   have t2 : ((i : Int) != (j : Int)) = true := by rw [bne, t1]; rfl
   have t3 : decide ((i : Int) > (j : Int)) = true := decide_eq_true (by omega)
   have t4 : decide ((j : Int) < (i : Int)) = true := t3
   obtain ⟨r, hr⟩ : ∃ r, r + j = i := ⟨i - j, by omega⟩
   have hw4 : IntKind.i64.wrap ((i : Int) - (j : Int)) = (r : Int) := by rw [IntKind.wrap_i64]; omega
   have HCALL := hI (swapR_any V w0 g N c q m j f bd sp D HLEN.out hm (by omega) (by omega) (.inl (by omega)) wr HR.out)
   have HST2 : Hid (RotSt T m r j (swR D q m j)) := by
    have h := HS.out.left hij
    rw [show m - i = q from by omega, show i - j = r from by omega] at h
    exact h
   have HUV : Hid (r + j = i) := hr
   clear hr hq
   go_wp2_with fail
   refine HCALL.out.mono ?_
   rintro e w1 ⟨rfl, hr1⟩
   have HR1 := hI hr1
   clear hr1
   go_wp2_with fail
   go_roundw
   case rel => exact ⟨r, j, _, rfl, rfl, by rw [swR_len]; exact HLEN.out, hjN, by have := HUV.out; omega, by have := HUV.out; omega, hj, HST2.out, HR1.out⟩
   case measure => have := HUV.out; simp [intOf]; omega
structure YLV (V : Lot → Prop) (w0 : World) (g : Nat) (sp : List Value) (D : List Lot) (ad : Addr) (N c : Nat) (f : Nat) (bd : Array Value) (a_ m_ b_ i_ j_ h_ : Nat) (x y : Lot) (zc : Int) (t : Bool)  (L : Array Bool) (W : World) (s40 s41 s42 s43 s44 s45 s46 s47 s48 s49 s50 : Value) : Prop where
 k0 : L.getD 0 false = true → s40 = .func (.func f) #[] bd
 k1 : L.getD 1 false = true → s41 = .slice (some ad) N c
 k2 : L.getD 2 false = true → s42 = .int .i64 (h_ : Int)
 k3 : L.getD 3 false = true → s43 = .pointer (some (ad.add (h_ * 7)))
 k4 : L.getD 4 false = true → s44 = .agg #[.string x.id, .string x.inst, .int .i64 x.acq, .int .i64 x.opn, .string x.qty, .string x.cost, .string x.used]
 k5 : L.getD 5 false = true → s45 = .slice (some ad) N c
 k6 : L.getD 6 false = true → s46 = .int .i64 (a_ : Int)
 k7 : L.getD 7 false = true → s47 = .pointer (some (ad.add (a_ * 7)))
 k8 : L.getD 8 false = true → s48 = .agg #[.string y.id, .string y.inst, .int .i64 y.acq, .int .i64 y.opn, .string y.qty, .string y.cost, .string y.used]
 k9 : L.getD 9 false = true → s49 = .int .i64 zc
 k10 : L.getD 10 false = true → s50 = .bool t
 r : SRow V w0 g sp D W
structure YLJ (V : Lot → Prop) (w0 : World) (g : Nat) (sp : List Value) (D : List Lot) (ad : Addr) (N c : Nat) (f : Nat) (bd : Array Value) (a_ m_ b_ i_ j_ h_ : Nat) (x y : Lot) (zc : Int) (t : Bool) (x5 x6 x7 x8 x9 x13 x14 x15 x16 x17 x18 x19 x20 x21 x22 x23 x24 x25 x26 x27 x28 x29 x30 x31 x32 x33 x34 x35 x36 x37 x38 x39 x51 x52 x53 x54 x55 x56 x57 x58 x59 x60 x61 x62 x63 x64 x65 x66 x67 x68 x69 x70 x71 x72 x73 x74 x75 x76 x77 x78 x79 x80 x81 x82 x83 x84 x85 x86 x87 x88 x89 x90 x91 x92 x93 x94 x95 x96 x97 x98 x99 x100 x101 x102 x103 x104 x105 x106 x107 x108 x109 x110 x111 x112 x113 x114 x115 x116 x117 x118 x119 x120 x121 x122 x123 x124 x125 x126 x127 x128 x129 x130 x131 x132 x133 x134 x135 x136 x137 x138 x139 x140 x141 x142 x143 x144 x145 x146 x147 x148 x149 x150 x151 x152 x153 x154 x155 x156 x157 x158 x159 x160 x161 x162 x163 x164 x165 x166 x167 x168 x169 x170 x171 x172 x173 x174 x175 x176 x177 x178 x179 x180 x181 x182 x183 x184 x185 x186 x187 x188 x189 x190 x191 x192 x193 x194 x195 x196 x197 x198 x199 x200 x201 x202 x203 x204 x205 x206 x207 x208 x209 x210 x211 x212 x213 x214 x215 x216 x217 x218 x219 : Value) (L : Array Bool) (a : Act) (W : World) : Prop where
 sz : L.size = 11
 fr : ∃ s40 s41 s42 s43 s44 s45 s46 s47 s48 s49 s50 : Value, a = { tmps := #[.slice (some ad) N c, .int .i64 (a_ : Int), .int .i64 (m_ : Int), .int .i64 (b_ : Int), .func (.func f) #[] bd, x5, x6, x7, x8, x9, .int .i64 (i_ : Int), .int .i64 (j_ : Int), .int .i64 (h_ : Int), x13, x14, x15, x16, x17, x18, x19, x20, x21, x22, x23, x24, x25, x26, x27, x28, x29, x30, x31, x32, x33, x34, x35, x36, x37, x38, x39, s40, s41, s42, s43, s44, s45, s46, s47, s48, s49, s50, x51, x52, x53, x54, x55, x56, x57, x58, x59, x60, x61, x62, x63, x64, x65, x66, x67, x68, x69, x70, x71, x72, x73, x74, x75, x76, x77, x78, x79, x80, x81, x82, x83, x84, x85, x86, x87, x88, x89, x90, x91, x92, x93, x94, x95, x96, x97, x98, x99, x100, x101, x102, x103, x104, x105, x106, x107, x108, x109, x110, x111, x112, x113, x114, x115, x116, x117, x118, x119, x120, x121, x122, x123, x124, x125, x126, x127, x128, x129, x130, x131, x132, x133, x134, x135, x136, x137, x138, x139, x140, x141, x142, x143, x144, x145, x146, x147, x148, x149, x150, x151, x152, x153, x154, x155, x156, x157, x158, x159, x160, x161, x162, x163, x164, x165, x166, x167, x168, x169, x170, x171, x172, x173, x174, x175, x176, x177, x178, x179, x180, x181, x182, x183, x184, x185, x186, x187, x188, x189, x190, x191, x192, x193, x194, x195, x196, x197, x198, x199, x200, x201, x202, x203, x204, x205, x206, x207, x208, x209, x210, x211, x212, x213, x214, x215, x216, x217, x218, x219], defers := [] } ∧ YLV V w0 g sp D ad N c f bd a_ m_ b_ i_ j_ h_ x y zc t  L W s40 s41 s42 s43 s44 s45 s46 s47 s48 s49 s50
structure YUV (V : Lot → Prop) (w0 : World) (g : Nat) (sp : List Value) (D : List Lot) (ad : Addr) (N c : Nat) (f : Nat) (bd : Array Value) (a_ m_ b_ i_ k_ kp_ : Nat) (x y : Lot)  (L : Array Bool) (W : World) (s61 s62 s63 s64 s65 s66 s67 s68 s69 s70 s71 s72 s73 s74 s75 s76 : Value) : Prop where
 k0 : L.getD 0 false = true → s61 = .slice (some ad) N c
 k1 : L.getD 1 false = true → s62 = .int .i64 (k_ : Int)
 k2 : L.getD 2 false = true → s63 = .slice (some ad) N c
 k3 : L.getD 3 false = true → s64 = .int .i64 (k_ : Int)
 k4 : L.getD 4 false = true → s65 = .int .i64 (kp_ : Int)
 k5 : L.getD 5 false = true → s66 = .slice (some ad) N c
 k6 : L.getD 6 false = true → s67 = .int .i64 (k_ : Int)
 k7 : L.getD 7 false = true → s68 = .int .i64 (kp_ : Int)
 k8 : L.getD 8 false = true → s69 = .pointer (some (ad.add (kp_ * 7)))
 k9 : L.getD 9 false = true → s70 = .agg #[.string y.id, .string y.inst, .int .i64 y.acq, .int .i64 y.opn, .string y.qty, .string y.cost, .string y.used]
 k10 : L.getD 10 false = true → s71 = .slice (some ad) N c
 k11 : L.getD 11 false = true → s72 = .int .i64 (k_ : Int)
 k12 : L.getD 12 false = true → s73 = .pointer (some (ad.add (k_ * 7)))
 k13 : L.getD 13 false = true → s74 = .agg #[.string x.id, .string x.inst, .int .i64 x.acq, .int .i64 x.opn, .string x.qty, .string x.cost, .string x.used]
 k14 : L.getD 14 false = true → s75 = .pointer (some (ad.add (k_ * 7)))
 k16 : L.getD 16 false = true → s76 = .pointer (some (ad.add (kp_ * 7)))
 r0 : L.getD 15 false = false → SRow V w0 g sp D W
 r1 : L.getD 15 false = true → L.getD 17 false = false → SRow V w0 g sp (D.set k_ y) W
 r2 : L.getD 17 false = true → SRow V w0 g sp ((D.set k_ y).set kp_ x) W
 q1 : L.getD 15 false = true → L.getD 13 false = true ∧ L.getD 9 false = true
 q2 : L.getD 17 false = true → L.getD 15 false = true
structure YUJ (V : Lot → Prop) (w0 : World) (g : Nat) (sp : List Value) (D : List Lot) (ad : Addr) (N c : Nat) (f : Nat) (bd : Array Value) (a_ m_ b_ i_ k_ kp_ : Nat) (x y : Lot) (x5 x6 x7 x8 x9 x11 x12 x14 x15 x16 x17 x18 x19 x20 x21 x22 x23 x24 x25 x26 x27 x28 x29 x30 x31 x32 x33 x34 x35 x36 x37 x38 x39 x40 x41 x42 x43 x44 x45 x46 x47 x48 x49 x50 x51 x52 x53 x54 x55 x56 x57 x58 x59 x60 x77 x78 x79 x80 x81 x82 x83 x84 x85 x86 x87 x88 x89 x90 x91 x92 x93 x94 x95 x96 x97 x98 x99 x100 x101 x102 x103 x104 x105 x106 x107 x108 x109 x110 x111 x112 x113 x114 x115 x116 x117 x118 x119 x120 x121 x122 x123 x124 x125 x126 x127 x128 x129 x130 x131 x132 x133 x134 x135 x136 x137 x138 x139 x140 x141 x142 x143 x144 x145 x146 x147 x148 x149 x150 x151 x152 x153 x154 x155 x156 x157 x158 x159 x160 x161 x162 x163 x164 x165 x166 x167 x168 x169 x170 x171 x172 x173 x174 x175 x176 x177 x178 x179 x180 x181 x182 x183 x184 x185 x186 x187 x188 x189 x190 x191 x192 x193 x194 x195 x196 x197 x198 x199 x200 x201 x202 x203 x204 x205 x206 x207 x208 x209 x210 x211 x212 x213 x214 x215 x216 x217 x218 x219 : Value) (L : Array Bool) (a : Act) (W : World) : Prop where
 sz : L.size = 18
 fr : ∃ s61 s62 s63 s64 s65 s66 s67 s68 s69 s70 s71 s72 s73 s74 s75 s76 : Value, a = { tmps := #[.slice (some ad) N c, .int .i64 (a_ : Int), .int .i64 (m_ : Int), .int .i64 (b_ : Int), .func (.func f) #[] bd, x5, x6, x7, x8, x9, .int .i64 (i_ : Int), x11, x12, .int .i64 (k_ : Int), x14, x15, x16, x17, x18, x19, x20, x21, x22, x23, x24, x25, x26, x27, x28, x29, x30, x31, x32, x33, x34, x35, x36, x37, x38, x39, x40, x41, x42, x43, x44, x45, x46, x47, x48, x49, x50, x51, x52, x53, x54, x55, x56, x57, x58, x59, x60, s61, s62, s63, s64, s65, s66, s67, s68, s69, s70, s71, s72, s73, s74, s75, s76, x77, x78, x79, x80, x81, x82, x83, x84, x85, x86, x87, x88, x89, x90, x91, x92, x93, x94, x95, x96, x97, x98, x99, x100, x101, x102, x103, x104, x105, x106, x107, x108, x109, x110, x111, x112, x113, x114, x115, x116, x117, x118, x119, x120, x121, x122, x123, x124, x125, x126, x127, x128, x129, x130, x131, x132, x133, x134, x135, x136, x137, x138, x139, x140, x141, x142, x143, x144, x145, x146, x147, x148, x149, x150, x151, x152, x153, x154, x155, x156, x157, x158, x159, x160, x161, x162, x163, x164, x165, x166, x167, x168, x169, x170, x171, x172, x173, x174, x175, x176, x177, x178, x179, x180, x181, x182, x183, x184, x185, x186, x187, x188, x189, x190, x191, x192, x193, x194, x195, x196, x197, x198, x199, x200, x201, x202, x203, x204, x205, x206, x207, x208, x209, x210, x211, x212, x213, x214, x215, x216, x217, x218, x219], defers := [] } ∧ YUV V w0 g sp D ad N c f bd a_ m_ b_ i_ k_ kp_ x y  L W s61 s62 s63 s64 s65 s66 s67 s68 s69 s70 s71 s72 s73 s74 s75 s76
theorem symL_any (V : Lot → Prop) (cf : Lot → Lot → Int) (lt : Lot → Lot → Bool) (hw : Weak lt) (w0 : World) (g N c a m b f : Nat) (bd : Array Value) (hlt : ∀ x y, V x → V y → decide (cf x y < 0) = lt x y) (hC : CmpS V cf f bd w0 g) (sp : List Value) (P L R Q : List Lot) (hN : (P ++ (L ++ (R ++ Q))).length = N) (hm : N ≤ 1000000) (ha : P.length = a) (hl : a + L.length = m) (hr : m + R.length = b) (h0 : a < m) (h1 : m < b) (hL : AscS lt L) (hR : AscS lt R) (h1L : a + 1 = m) (w : World) (hrow : SRow V w0 g sp (P ++ (L ++ (R ++ Q))) w) :
 Calls Tryz.prog 133 #[.slice (some ⟨g, 0, none⟩) N c, .int .i64 (a : Int), .int .i64 (m : Int), .int .i64 (b : Int), .func (.func f) #[] bd] w fun e w' => e = .returned (.tuple #[]) ∧ SRow V w0 g sp (P ++ (mrg lt L R ++ Q)) w' := by
 obtain ⟨ad, had⟩ : ∃ ad : Addr, ad = ⟨g, 0, none⟩ := ⟨_, rfl⟩
 rw [← had]
 have hbN : b ≤ N := by rw [← hN]; simp; omega
 obtain ⟨D0, hD0⟩ : ∃ D, D = P ++ (L ++ (R ++ Q)) := ⟨_, rfl⟩
 rw [← hD0] at hrow hN
 have HAD := hI had
 have HROW := hI hrow
 have HNN := hI hN
 have HLT := hI hlt
 have HC := hI hC
 obtain ⟨x0, hx0⟩ : ∃ x, L = [x] := by
  cases L with
  | nil => simp at hl; omega
  | cons x r => cases r with
    | nil => exact ⟨x, rfl⟩
    | cons y r => simp at hl; omega
 subst hx0
 have HEND : Hid (∀ i, BSt (fun h => ltAt lt D0 h a) m b i i → ∃ r1 r2, mrg lt [x0] R = r1 ++ x0 :: r2 ∧ m + r1.length = i ∧ Sh P r1 x0 (r2 ++ Q) a D0 (fun _ => True)) := fun i hs => by
  obtain ⟨r1, r2, _, e2, e3, e4⟩ := sym_one_left lt hw hD0 ha h1L hr hR hs
  exact ⟨r1, r2, e2, e3, e4⟩
 have HPL : Hid (P.length = a) := ha
 have hw0 : IntKind.i64.wrap ((m : Int) - (a : Int)) = 1 := by rw [IntKind.wrap_i64]; omega
 clear had hrow hN hlt hC hw hD0 hL hR hl hr ha
 go_enter Tryz.func133, Tryz.ntmps133
 go_wp2_with fail
 go_loopw [10, 11, 12] (fun v10 v11 _ wr => ∃ (i j : Nat), v10 = .int .i64 (i : Int) ∧ v11 = .int .i64 (j : Int) ∧ BSt (fun h => ltAt lt D0 h a) m b i j ∧ SRow V w0 g sp D0 wr) (fun v10 v11 _ _ => (intOf v11).toNat - (intOf v10).toNat)
 case atStart => exact ⟨m, b, rfl, rfl, BSt.start (by omega), HROW.out⟩
 case round =>
  clear hw0
  obtain ⟨i, j, rfl, rfl, hbs, hrow⟩ := hrel
  have hbl := hbs.l
  have hbr := hbs.r
  have hbm := hbs.m
  have HBS := hI hbs
  have HR := hI hrow
  clear hbs hrow
  rcases Nat.lt_or_ge i j with hij | hij
  ·have hcx : decide ((i : Int) < (j : Int)) = true := decide_eq_true (by omega)
   obtain ⟨h, hh⟩ : ∃ h, h = (i + j) / 2 := ⟨_, rfl⟩
   have hih : i ≤ h := by omega
   have hhj : h < j := by omega
   have hw1 : IntKind.i64.wrap ((i : Int) + (j : Int)) = ((i + j : Nat) : Int) := by rw [IntKind.wrap_i64]; omega
   have hz2 : ((i : Int) + (j : Int)) / 2 = (h : Int) := by omega
   have hwh : IntKind.i64.wrap ((h : Int) + 1) = ((h + 1 : Nat) : Int) := by rw [IntKind.wrap_i64]; omega
   obtain ⟨x, hx⟩ : ∃ x, D0[h]? = some x := ⟨_, List.getElem?_eq_getElem (by have := HNN.out; omega)⟩
   obtain ⟨y, hy⟩ : ∃ y, D0[a]? = some y := ⟨_, List.getElem?_eq_getElem (by have := HNN.out; omega)⟩
   have HX : Hid (D0[h]? = some x) := hx
   have HY : Hid (D0[a]? = some y) := hy
   have HVX : Hid (V x) := HR.out.ok x (List.mem_of_getElem? hx)
   have HVY : Hid (V y) := HR.out.ok y (List.mem_of_getElem? hy)
   have HL_h : Hid ((h : Int) < (N : Int)) := by show (h : Int) < _; omega
   have HL_a : Hid ((a : Int) < (N : Int)) := by show (a : Int) < _; omega
   obtain ⟨zc, hzc⟩ : ∃ zc, cf x y = zc := ⟨_, rfl⟩
   obtain ⟨t, ht⟩ : ∃ t, lt x y = t := ⟨_, rfl⟩
   have hzt := HLT.out x y HVX.out HVY.out
   rw [ht, hzc] at hzt
   have HZT := hI hzt
   have hcr := fun W (h : SRow V w0 g sp D0 W) => HC.out.at HVX.out HVY.out W h
   rw [hzc] at hcr
   have HCR := hI hcr
   have HAT : Hid (ltAt lt D0 h a = t) := by rw [Hid, ltAt_of lt hx hy, ht]
   have hrow0 := HR.out.drew
   clear hx hy hzc ht hzt hcr
   clear hh
   go_upto_region 5 with fail
   have mixed : Tryz.prog.follows .mixedOrders = true := by kernel_rfl
   refine wp_region_any mixed (wpAny_inv (YLJ V w0 g sp D0 ad N c f bd a m b i j h x y zc t _ _ _ _ _ _ _ _ _ _ _ _ _ _ _ _ _ _ _ _ _ _ _ _ _ _ _ _ _ _ _ _ _ _ _ _ _ _ _ _ _ _ _ _ _ _ _ _ _ _ _ _ _ _ _ _ _ _ _ _ _ _ _ _ _ _ _ _ _ _ _ _ _ _ _ _ _ _ _ _ _ _ _ _ _ _ _ _ _ _ _ _ _ _ _ _ _ _ _ _ _ _ _ _ _ _ _ _ _ _ _ _ _ _ _ _ _ _ _ _ _ _ _ _ _ _ _ _ _ _ _ _ _ _ _ _ _ _ _ _ _ _ _ _ _ _ _ _ _ _ _ _ _ _ _ _ _ _ _ _ _ _ _ _ _ _ _ _ _ _ _ _ _ _ _ _ _ _ _ _ _ _ _ _ _ _ _ _ _ _ _ _ _ _ _ _ _ _ _ _ _) ?stYL ?dnYL _ _ _ _ ⟨by simp, ⟨_, _, _, _, _, _, _, _, _, _, _, rfl, fun h => by simp at h, fun h => by simp at h, fun h => by simp at h, fun h => by simp at h, fun h => by simp at h, fun h => by simp at h, fun h => by simp at h, fun h => by simp at h, fun h => by simp at h, fun h => by simp at h, fun h => by simp at h, hrow0⟩⟩ (by decide))
   case dnYL =>
    intro L a w' hj hr
    have all := all_on hr hj.sz (by kernel_rfl)
    obtain ⟨s40, s41, s42, s43, s44, s45, s46, s47, s48, s49, s50, rfl, hv⟩ := hj.fr
    have e10 := hv.k10 (all 10 (by omega))
    subst e10
    have HR1 := hI hv.r
    clear all hv hj hr
    cases t
    case false =>
     go_wp2_with fail
     go_roundw
     case rel => exact ⟨i, h, rfl, rfl, HBS.out.no hih hhj HAT.out, HR1.out⟩
     case measure => simp [intOf]; omega
    case true =>
     go_wp2_with fail
     go_roundw
     case rel => exact ⟨h + 1, j, by go_num, rfl, HBS.out.yes hih hhj HAT.out, HR1.out⟩
     case measure => simp [intOf]; omega
   case stYL =>
    intro L a w' hj i hi
    obtain ⟨hun, o, ho, hall⟩ := mem_ready.1 hi
    have hoff := getD_off hun
    have hlt := (Array.getElem?_eq_some_iff.1 ho).1
    simp at hlt
    obtain ⟨s40, s41, s42, s43, s44, s45, s46, s47, s48, s49, s50, rfl, hv⟩ := hj.fr
    have HV := hI hv
    have HJ := hI hj
    clear hv hj
    rcases (show i = 0 ∨ i = 1 ∨ i = 2 ∨ i = 3 ∨ i = 4 ∨ i = 5 ∨ i = 6 ∨ i = 7 ∨ i = 8 ∨ i = 9 ∨ i = 10 from by omega) with rfl | rfl | rfl | rfl | rfl | rfl | rfl | rfl | rfl | rfl | rfl
    all_goals simp at ho
    all_goals subst ho
    rotate_left
    rotate_left
    rotate_left
    cases HV.out.k1 (Hq hall 1).out
    cases HV.out.k2 (Hq hall 2).out
    have h0 := HL_h.out
    rotate_left
    cases HV.out.k3 (Hq hall 3).out
    obtain ⟨c0, c1, c2, c3, c4, c5, c6⟩ := HV.out.r.at' HAD.out HX.out
    rotate_left
    rotate_left
    rotate_left
    cases HV.out.k5 (Hq hall 5).out
    cases HV.out.k6 (Hq hall 6).out
    have h0 := HL_a.out
    rotate_left
    cases HV.out.k7 (Hq hall 7).out
    obtain ⟨c0, c1, c2, c3, c4, c5, c6⟩ := HV.out.r.at' HAD.out HY.out
    rotate_left
    ·cases HV.out.k0 (Hq hall 0).out
     cases HV.out.k4 (Hq hall 4).out
     cases HV.out.k8 (Hq hall 8).out
     clear hall hi
     have hen := HC.out.en
     refine wpOp_hid rfl fun K' HK => ?_
     go_simp
     refine (HCR.out w' HV.out.r).mono ?_
     rintro e wn ⟨rfl, bn⟩
     cases HV.out
     refine HK.out _ _ ⟨by simp [HJ.out.sz], ⟨_, _, _, _, _, _, _, _, _, _, _, rfl, ?_, ?_, ?_, ?_, ?_, ?_, ?_, ?_, ?_, fun _ => rfl, ?_, HV.out.r.below bn⟩⟩
     all_goals exact Um (by assumption)
    cases HV.out.k9 (Hq hall 9).out
    have hzt := HZT.out
    rotate_left
    all_goals
     clear hall hi
     refine wpOp_hid rfl fun K' HK => ?_
     go_simp
     cases HV.out
     refine HK.out _ _ ⟨by simp [HJ.out.sz], ?_⟩
     iterate 11 apply Exists.intro
     refine ⟨rfl, ?_⟩
     constructor
     all_goals first | exact Um (by assumption) | exact Un (by assumption) | exact Uf (by assumption) | exact fun _ => rfl | assumption
  ·have hcx : decide ((i : Int) < (j : Int)) = false := decide_eq_false (by omega)
   obtain rfl : i = j := by omega
   obtain ⟨r1, r2, e1, e2, hsh⟩ := HEND.out i HBS.out
   obtain ⟨i1, hi1⟩ : ∃ k, k + 1 = i := ⟨i - 1, by omega⟩
   have hw1 : IntKind.i64.wrap ((i : Int) - 1) = (i1 : Int) := by rw [IntKind.wrap_i64]; omega
   have HSH := hI hsh
   have HE1 := hI e1
   have HTOP : Hid (P.length + r1.length = i1) := by rw [Hid, HPL.out]; omega
   have HI1 := hI hi1
   have hai1 : a ≤ i1 := by omega
   have hi1N : i1 < N := by omega
   clear e1 e2 hsh hi1
   go_wp2_with fail
   go_loopw [13] (fun v wr => ∃ (k : Nat) (D : List Lot), v = .int .i64 (k : Int) ∧ a ≤ k ∧ k ≤ i1 ∧ D.length = N ∧ Sh P r1 x0 (r2 ++ Q) k D (fun _ => True) ∧ SRow V w0 g sp D wr) (fun v _ => i1 - (intOf v).toNat)
   case atStart => exact ⟨a, D0, rfl, Nat.le_refl _, hai1, HNN.out, HSH.out, HR.out⟩
   case round =>
    clear HR HSH HBS
    obtain ⟨k, D, rfl, hak, hki, hlen, hsh, hrow⟩ := hrel
    have HR := hI hrow
    have HSH := hI hsh
    have HLEN := hI hlen
    rcases Nat.lt_or_ge k i1 with hlt | hge
    ·have hcx : decide ((k : Int) < (i1 : Int)) = true := decide_eq_true (by omega)
     obtain ⟨kp, hkp⟩ : ∃ kp, kp = k + 1 := ⟨_, rfl⟩
     have HKP := hI hkp
     have HW_kp : Hid (IntKind.i64.wrap ((k : Int) + 1) = (kp : Int)) := by rw [Hid, IntKind.wrap_i64]; omega
     obtain ⟨x, hx⟩ : ∃ x, D[k]? = some x := ⟨_, List.getElem?_eq_getElem (by omega)⟩
     obtain ⟨y, hy⟩ : ∃ y, D[kp]? = some y := ⟨_, List.getElem?_eq_getElem (by omega)⟩
     have HX : Hid (D[k]? = some x) := hx
     have HY : Hid (D[kp]? = some y) := hy
     have HYV : Hid ((D.set k y)[kp]? = some y) := by rw [Hid, List.getElem?_set_ne (by omega)]; exact hy
     have HVX : Hid (V x) := HR.out.ok x (List.mem_of_getElem? hx)
     have HVY : Hid (V y) := HR.out.ok y (List.mem_of_getElem? hy)
     have HL_k : Hid ((k : Int) < (N : Int)) := by show (k : Int) < _; omega
     have HL_kp : Hid ((kp : Int) < (N : Int)) := by show (kp : Int) < _; omega
     have HSTEP : Hid (Sh P r1 x0 (r2 ++ Q) kp (swp D k kp) (fun _ => True)) := by
      have h := HSH.out.up (by rw [HTOP.out]; exact hlt)
      rw [← hkp] at h; exact h
     have hrow0 := HR.out.drew
     clear hx hy hlen hsh hrow hkp
     go_upto_region 11 with fail
     have mixed : Tryz.prog.follows .mixedOrders = true := by kernel_rfl
     refine wp_region_any mixed (wpAny_inv (YUJ V w0 g sp D ad N c f bd a m b i k kp x y _ _ _ _ _ _ _ _ _ _ _ _ _ _ _ _ _ _ _ _ _ _ _ _ _ _ _ _ _ _ _ _ _ _ _ _ _ _ _ _ _ _ _ _ _ _ _ _ _ _ _ _ _ _ _ _ _ _ _ _ _ _ _ _ _ _ _ _ _ _ _ _ _ _ _ _ _ _ _ _ _ _ _ _ _ _ _ _ _ _ _ _ _ _ _ _ _ _ _ _ _ _ _ _ _ _ _ _ _ _ _ _ _ _ _ _ _ _ _ _ _ _ _ _ _ _ _ _ _ _ _ _ _ _ _ _ _ _ _ _ _ _ _ _ _ _ _ _ _ _ _ _ _ _ _ _ _ _ _ _ _ _ _ _ _ _ _ _ _ _ _ _ _ _ _ _ _ _ _ _ _ _ _ _ _ _ _ _ _ _ _ _ _ _ _ _ _) ?stYU ?dnYU _ _ _ _ ⟨by simp, ⟨_, _, _, _, _, _, _, _, _, _, _, _, _, _, _, _, rfl, fun h => by simp at h, fun h => by simp at h, fun h => by simp at h, fun h => by simp at h, fun h => by simp at h, fun h => by simp at h, fun h => by simp at h, fun h => by simp at h, fun h => by simp at h, fun h => by simp at h, fun h => by simp at h, fun h => by simp at h, fun h => by simp at h, fun h => by simp at h, fun h => by simp at h, fun h => by simp at h, fun _ => hrow0, fun h => by simp at h, fun h => by simp at h, fun h => by simp at h, fun h => by simp at h⟩⟩ (by decide))
     case dnYU =>
      intro L a w' hj hr
      have all := all_on hr hj.sz (by kernel_rfl)
      obtain ⟨s61, s62, s63, s64, s65, s66, s67, s68, s69, s70, s71, s72, s73, s74, s75, s76, rfl, hv⟩ := hj.fr
      have HRW := hI (hv.r2 (all 17 (by omega)))
      clear all hv hj hr
      have hwr := HW_kp.out
      go_wp2_with fail
      go_roundw
      case rel => exact ⟨kp, _, rfl, by have := HKP.out; omega, by have := HKP.out; omega, by rw [List.length_set, List.length_set]; exact HLEN.out, by have h := HSTEP.out; rw [swp_at HX.out HY.out] at h; exact h, HRW.out⟩
      case measure => have := HKP.out; simp [intOf]; omega
     case stYU =>
      intro L a w' hj i hi
      obtain ⟨hun, o, ho, hall⟩ := mem_ready.1 hi
      have hoff := getD_off hun
      have hlt := (Array.getElem?_eq_some_iff.1 ho).1
      simp at hlt
      obtain ⟨s61, s62, s63, s64, s65, s66, s67, s68, s69, s70, s71, s72, s73, s74, s75, s76, rfl, hv⟩ := hj.fr
      have HV := hI hv
      have HJ := hI hj
      clear hv hj
      rcases (show i = 0 ∨ i = 1 ∨ i = 2 ∨ i = 3 ∨ i = 4 ∨ i = 5 ∨ i = 6 ∨ i = 7 ∨ i = 8 ∨ i = 9 ∨ i = 10 ∨ i = 11 ∨ i = 12 ∨ i = 13 ∨ i = 14 ∨ i = 15 ∨ i = 16 ∨ i = 17 from by omega) with rfl | rfl | rfl | rfl | rfl | rfl | rfl | rfl | rfl | rfl | rfl | rfl | rfl | rfl | rfl | rfl | rfl | rfl
      all_goals simp at ho
      all_goals subst ho
      rotate_left
      rotate_left
      rotate_left
      rotate_left
      cases HV.out.k3 (Hq hall 3).out
      have h0 := HW_kp.out
      rotate_left
      rotate_left
      rotate_left
      cases HV.out.k6 (Hq hall 6).out
      have h0 := HW_kp.out
      rotate_left
      cases HV.out.k5 (Hq hall 5).out
      cases HV.out.k7 (Hq hall 7).out
      have h0 := HL_kp.out
      rotate_left
      cases HV.out.k8 (Hq hall 8).out
      have ho : L.getD 15 false = false := by rcases off_or_on L 15 with h | h; exact h; exact (not_on hoff (HV.out.q1 h).2).elim
      obtain ⟨c0, c1, c2, c3, c4, c5, c6⟩ := (HV.out.r0 ho).at' HAD.out HY.out
      rotate_left
      rotate_left
      rotate_left
      cases HV.out.k10 (Hq hall 10).out
      cases HV.out.k11 (Hq hall 11).out
      have h0 := HL_k.out
      rotate_left
      cases HV.out.k12 (Hq hall 12).out
      have ho : L.getD 15 false = false := by rcases off_or_on L 15 with h | h; exact h; exact (not_on hoff (HV.out.q1 h).1).elim
      obtain ⟨c0, c1, c2, c3, c4, c5, c6⟩ := (HV.out.r0 ho).at' HAD.out HX.out
      rotate_left
      cases HV.out.k0 (Hq hall 0).out
      cases HV.out.k1 (Hq hall 1).out
      have h0 := HL_k.out
      rotate_left
      ·have H9 := Hq hall 9
       have H13 := Hq hall 13
       cases HV.out.k14 (Hq hall 14).out
       cases HV.out.k9 (Hq hall 9).out
       clear hall hi
       have ho2 : L.getD 17 false = false := by rcases off_or_on L 17 with h | h; exact h; exact (not_on hoff (HV.out.q2 h)).elim
       obtain ⟨wn, hrun, hrow⟩ := (HV.out.r0 hoff).st HAD.out HX.out HVY.out
       refine wpOp_hid rfl fun K' HK => ?_
       refine step_store_run hrun rfl _ _ rfl rfl rfl ?_
       go_simp
       cases HV.out
       refine HK.out _ _ ⟨by simp [HJ.out.sz], ⟨_, _, _, _, _, _, _, _, _, _, _, _, _, _, _, _, rfl, ?_, ?_, ?_, ?_, ?_, ?_, ?_, ?_, ?_, ?_, ?_, ?_, ?_, ?_, ?_, ?_, fun h => (not_on h (getD_set_same hun)).elim, fun _ _ => hrow, fun h => (not_on hoff (HV.out.q2 (Uz h))).elim, fun _ => ⟨getD_up hun H13.out, getD_up hun H9.out⟩, fun h => (not_on hoff (HV.out.q2 (Uz h))).elim⟩⟩
       all_goals exact Um (by assumption)
      cases HV.out.k2 (Hq hall 2).out
      cases HV.out.k4 (Hq hall 4).out
      have h0 := HL_kp.out
      rotate_left
      ·have H15 := Hq hall 15
       cases HV.out.k16 (Hq hall 16).out
       cases HV.out.k13 (Hq hall 13).out
       clear hall hi
       obtain ⟨wn, hrun, hrow⟩ := (HV.out.r1 H15.out hoff).st HAD.out HYV.out HVX.out
       refine wpOp_hid rfl fun K' HK => ?_
       refine step_store_run hrun rfl _ _ rfl rfl rfl ?_
       go_simp
       cases HV.out
       refine HK.out _ _ ⟨by simp [HJ.out.sz], ⟨_, _, _, _, _, _, _, _, _, _, _, _, _, _, _, _, rfl, ?_, ?_, ?_, ?_, ?_, ?_, ?_, ?_, ?_, ?_, ?_, ?_, ?_, ?_, ?_, ?_, fun h => (not_on (Dz h) H15.out).elim, fun _ h => (not_on h (getD_set_same hun)).elim, fun _ => hrow, fun h => ⟨getD_up hun (HV.out.q1 (Uz h)).1, getD_up hun (HV.out.q1 (Uz h)).2⟩, fun _ => getD_up hun H15.out⟩⟩
       all_goals exact Um (by assumption)
      all_goals
       clear hall hi
       refine wpOp_hid rfl fun K' HK => ?_
       go_simp
       cases HV.out
       refine HK.out _ _ ⟨by simp [HJ.out.sz], ?_⟩
       iterate 16 apply Exists.intro
       refine ⟨rfl, ?_⟩
       constructor
       all_goals first | exact Um (by assumption) | exact Un (by assumption) | exact Uf (by assumption) | exact fun _ => rfl | assumption | exact Uq hun (by assumption) | exact Uq2 hun (by assumption) | exact Uq3 hun (by assumption)
    ·have hcx : decide ((k : Int) < (i1 : Int)) = false := decide_eq_false (by omega)
     have HF : Hid (SRow V w0 g sp (P ++ (mrg lt [x0] R ++ Q)) wr) := HR.out.same (by rw [HE1.out, HSH.out.top (by have := HTOP.out; omega)]; simp)
     clear hsh hrow hlen
     go_wp2_with fail
     refine bodyPost_ret (results_none rfl _ _ _) rfl ?_
     exact ⟨rfl, HF.out⟩
structure YRV (V : Lot → Prop) (w0 : World) (g : Nat) (sp : List Value) (D : List Lot) (ad : Addr) (N c : Nat) (f : Nat) (bd : Array Value) (a_ m_ b_ i_ j_ h_ : Nat) (x y : Lot) (zc : Int) (t : Bool)  (L : Array Bool) (W : World) (s92 s93 s94 s95 s96 s97 s98 s99 s100 s101 s102 s103 : Value) : Prop where
 k0 : L.getD 0 false = true → s92 = .func (.func f) #[] bd
 k1 : L.getD 1 false = true → s93 = .slice (some ad) N c
 k2 : L.getD 2 false = true → s94 = .int .i64 (m_ : Int)
 k3 : L.getD 3 false = true → s95 = .pointer (some (ad.add (m_ * 7)))
 k4 : L.getD 4 false = true → s96 = .agg #[.string x.id, .string x.inst, .int .i64 x.acq, .int .i64 x.opn, .string x.qty, .string x.cost, .string x.used]
 k5 : L.getD 5 false = true → s97 = .slice (some ad) N c
 k6 : L.getD 6 false = true → s98 = .int .i64 (h_ : Int)
 k7 : L.getD 7 false = true → s99 = .pointer (some (ad.add (h_ * 7)))
 k8 : L.getD 8 false = true → s100 = .agg #[.string y.id, .string y.inst, .int .i64 y.acq, .int .i64 y.opn, .string y.qty, .string y.cost, .string y.used]
 k9 : L.getD 9 false = true → s101 = .int .i64 zc
 k10 : L.getD 10 false = true → s102 = .bool t
 k11 : L.getD 11 false = true → s103 = .bool (!t)
 r : SRow V w0 g sp D W
structure YRJ (V : Lot → Prop) (w0 : World) (g : Nat) (sp : List Value) (D : List Lot) (ad : Addr) (N c : Nat) (f : Nat) (bd : Array Value) (a_ m_ b_ i_ j_ h_ : Nat) (x y : Lot) (zc : Int) (t : Bool) (x5 x6 x7 x8 x9 x10 x11 x12 x13 x17 x18 x19 x20 x21 x22 x23 x24 x25 x26 x27 x28 x29 x30 x31 x32 x33 x34 x35 x36 x37 x38 x39 x40 x41 x42 x43 x44 x45 x46 x47 x48 x49 x50 x51 x52 x53 x54 x55 x56 x57 x58 x59 x60 x61 x62 x63 x64 x65 x66 x67 x68 x69 x70 x71 x72 x73 x74 x75 x76 x77 x78 x79 x80 x81 x82 x83 x84 x85 x86 x87 x88 x89 x90 x91 x104 x105 x106 x107 x108 x109 x110 x111 x112 x113 x114 x115 x116 x117 x118 x119 x120 x121 x122 x123 x124 x125 x126 x127 x128 x129 x130 x131 x132 x133 x134 x135 x136 x137 x138 x139 x140 x141 x142 x143 x144 x145 x146 x147 x148 x149 x150 x151 x152 x153 x154 x155 x156 x157 x158 x159 x160 x161 x162 x163 x164 x165 x166 x167 x168 x169 x170 x171 x172 x173 x174 x175 x176 x177 x178 x179 x180 x181 x182 x183 x184 x185 x186 x187 x188 x189 x190 x191 x192 x193 x194 x195 x196 x197 x198 x199 x200 x201 x202 x203 x204 x205 x206 x207 x208 x209 x210 x211 x212 x213 x214 x215 x216 x217 x218 x219 : Value) (L : Array Bool) (a : Act) (W : World) : Prop where
 sz : L.size = 12
 fr : ∃ s92 s93 s94 s95 s96 s97 s98 s99 s100 s101 s102 s103 : Value, a = { tmps := #[.slice (some ad) N c, .int .i64 (a_ : Int), .int .i64 (m_ : Int), .int .i64 (b_ : Int), .func (.func f) #[] bd, x5, x6, x7, x8, x9, x10, x11, x12, x13, .int .i64 (i_ : Int), .int .i64 (j_ : Int), .int .i64 (h_ : Int), x17, x18, x19, x20, x21, x22, x23, x24, x25, x26, x27, x28, x29, x30, x31, x32, x33, x34, x35, x36, x37, x38, x39, x40, x41, x42, x43, x44, x45, x46, x47, x48, x49, x50, x51, x52, x53, x54, x55, x56, x57, x58, x59, x60, x61, x62, x63, x64, x65, x66, x67, x68, x69, x70, x71, x72, x73, x74, x75, x76, x77, x78, x79, x80, x81, x82, x83, x84, x85, x86, x87, x88, x89, x90, x91, s92, s93, s94, s95, s96, s97, s98, s99, s100, s101, s102, s103, x104, x105, x106, x107, x108, x109, x110, x111, x112, x113, x114, x115, x116, x117, x118, x119, x120, x121, x122, x123, x124, x125, x126, x127, x128, x129, x130, x131, x132, x133, x134, x135, x136, x137, x138, x139, x140, x141, x142, x143, x144, x145, x146, x147, x148, x149, x150, x151, x152, x153, x154, x155, x156, x157, x158, x159, x160, x161, x162, x163, x164, x165, x166, x167, x168, x169, x170, x171, x172, x173, x174, x175, x176, x177, x178, x179, x180, x181, x182, x183, x184, x185, x186, x187, x188, x189, x190, x191, x192, x193, x194, x195, x196, x197, x198, x199, x200, x201, x202, x203, x204, x205, x206, x207, x208, x209, x210, x211, x212, x213, x214, x215, x216, x217, x218, x219], defers := [] } ∧ YRV V w0 g sp D ad N c f bd a_ m_ b_ i_ j_ h_ x y zc t  L W s92 s93 s94 s95 s96 s97 s98 s99 s100 s101 s102 s103
structure YDV (V : Lot → Prop) (w0 : World) (g : Nat) (sp : List Value) (D : List Lot) (ad : Addr) (N c : Nat) (f : Nat) (bd : Array Value) (a_ m_ b_ i_ k_ kp_ : Nat) (x y : Lot)  (L : Array Bool) (W : World) (s113 s114 s115 s116 s117 s118 s119 s120 s121 s122 s123 s124 s125 s126 s127 s128 : Value) : Prop where
 k0 : L.getD 0 false = true → s113 = .slice (some ad) N c
 k1 : L.getD 1 false = true → s114 = .int .i64 (k_ : Int)
 k2 : L.getD 2 false = true → s115 = .slice (some ad) N c
 k3 : L.getD 3 false = true → s116 = .int .i64 (k_ : Int)
 k4 : L.getD 4 false = true → s117 = .int .i64 (kp_ : Int)
 k5 : L.getD 5 false = true → s118 = .slice (some ad) N c
 k6 : L.getD 6 false = true → s119 = .int .i64 (k_ : Int)
 k7 : L.getD 7 false = true → s120 = .int .i64 (kp_ : Int)
 k8 : L.getD 8 false = true → s121 = .pointer (some (ad.add (kp_ * 7)))
 k9 : L.getD 9 false = true → s122 = .agg #[.string y.id, .string y.inst, .int .i64 y.acq, .int .i64 y.opn, .string y.qty, .string y.cost, .string y.used]
 k10 : L.getD 10 false = true → s123 = .slice (some ad) N c
 k11 : L.getD 11 false = true → s124 = .int .i64 (k_ : Int)
 k12 : L.getD 12 false = true → s125 = .pointer (some (ad.add (k_ * 7)))
 k13 : L.getD 13 false = true → s126 = .agg #[.string x.id, .string x.inst, .int .i64 x.acq, .int .i64 x.opn, .string x.qty, .string x.cost, .string x.used]
 k14 : L.getD 14 false = true → s127 = .pointer (some (ad.add (k_ * 7)))
 k16 : L.getD 16 false = true → s128 = .pointer (some (ad.add (kp_ * 7)))
 r0 : L.getD 15 false = false → SRow V w0 g sp D W
 r1 : L.getD 15 false = true → L.getD 17 false = false → SRow V w0 g sp (D.set k_ y) W
 r2 : L.getD 17 false = true → SRow V w0 g sp ((D.set k_ y).set kp_ x) W
 q1 : L.getD 15 false = true → L.getD 13 false = true ∧ L.getD 9 false = true
 q2 : L.getD 17 false = true → L.getD 15 false = true
structure YDJ (V : Lot → Prop) (w0 : World) (g : Nat) (sp : List Value) (D : List Lot) (ad : Addr) (N c : Nat) (f : Nat) (bd : Array Value) (a_ m_ b_ i_ k_ kp_ : Nat) (x y : Lot) (x5 x6 x7 x8 x9 x10 x11 x12 x13 x15 x16 x18 x19 x20 x21 x22 x23 x24 x25 x26 x27 x28 x29 x30 x31 x32 x33 x34 x35 x36 x37 x38 x39 x40 x41 x42 x43 x44 x45 x46 x47 x48 x49 x50 x51 x52 x53 x54 x55 x56 x57 x58 x59 x60 x61 x62 x63 x64 x65 x66 x67 x68 x69 x70 x71 x72 x73 x74 x75 x76 x77 x78 x79 x80 x81 x82 x83 x84 x85 x86 x87 x88 x89 x90 x91 x92 x93 x94 x95 x96 x97 x98 x99 x100 x101 x102 x103 x104 x105 x106 x107 x108 x109 x110 x111 x112 x129 x130 x131 x132 x133 x134 x135 x136 x137 x138 x139 x140 x141 x142 x143 x144 x145 x146 x147 x148 x149 x150 x151 x152 x153 x154 x155 x156 x157 x158 x159 x160 x161 x162 x163 x164 x165 x166 x167 x168 x169 x170 x171 x172 x173 x174 x175 x176 x177 x178 x179 x180 x181 x182 x183 x184 x185 x186 x187 x188 x189 x190 x191 x192 x193 x194 x195 x196 x197 x198 x199 x200 x201 x202 x203 x204 x205 x206 x207 x208 x209 x210 x211 x212 x213 x214 x215 x216 x217 x218 x219 : Value) (L : Array Bool) (a : Act) (W : World) : Prop where
 sz : L.size = 18
 fr : ∃ s113 s114 s115 s116 s117 s118 s119 s120 s121 s122 s123 s124 s125 s126 s127 s128 : Value, a = { tmps := #[.slice (some ad) N c, .int .i64 (a_ : Int), .int .i64 (m_ : Int), .int .i64 (b_ : Int), .func (.func f) #[] bd, x5, x6, x7, x8, x9, x10, x11, x12, x13, .int .i64 (i_ : Int), x15, x16, .int .i64 (k_ : Int), x18, x19, x20, x21, x22, x23, x24, x25, x26, x27, x28, x29, x30, x31, x32, x33, x34, x35, x36, x37, x38, x39, x40, x41, x42, x43, x44, x45, x46, x47, x48, x49, x50, x51, x52, x53, x54, x55, x56, x57, x58, x59, x60, x61, x62, x63, x64, x65, x66, x67, x68, x69, x70, x71, x72, x73, x74, x75, x76, x77, x78, x79, x80, x81, x82, x83, x84, x85, x86, x87, x88, x89, x90, x91, x92, x93, x94, x95, x96, x97, x98, x99, x100, x101, x102, x103, x104, x105, x106, x107, x108, x109, x110, x111, x112, s113, s114, s115, s116, s117, s118, s119, s120, s121, s122, s123, s124, s125, s126, s127, s128, x129, x130, x131, x132, x133, x134, x135, x136, x137, x138, x139, x140, x141, x142, x143, x144, x145, x146, x147, x148, x149, x150, x151, x152, x153, x154, x155, x156, x157, x158, x159, x160, x161, x162, x163, x164, x165, x166, x167, x168, x169, x170, x171, x172, x173, x174, x175, x176, x177, x178, x179, x180, x181, x182, x183, x184, x185, x186, x187, x188, x189, x190, x191, x192, x193, x194, x195, x196, x197, x198, x199, x200, x201, x202, x203, x204, x205, x206, x207, x208, x209, x210, x211, x212, x213, x214, x215, x216, x217, x218, x219], defers := [] } ∧ YDV V w0 g sp D ad N c f bd a_ m_ b_ i_ k_ kp_ x y  L W s113 s114 s115 s116 s117 s118 s119 s120 s121 s122 s123 s124 s125 s126 s127 s128
theorem symR_any (V : Lot → Prop) (cf : Lot → Lot → Int) (lt : Lot → Lot → Bool) (hw : Weak lt) (w0 : World) (g N c a m b f : Nat) (bd : Array Value) (hlt : ∀ x y, V x → V y → decide (cf x y < 0) = lt x y) (hC : CmpS V cf f bd w0 g) (sp : List Value) (P L R Q : List Lot) (hN : (P ++ (L ++ (R ++ Q))).length = N) (hm : N ≤ 1000000) (ha : P.length = a) (hl : a + L.length = m) (hr : m + R.length = b) (h0 : a < m) (h1 : m < b) (hL : AscS lt L) (hR : AscS lt R) (hnL : a + 1 ≠ m) (h1R : m + 1 = b) (w : World) (hrow : SRow V w0 g sp (P ++ (L ++ (R ++ Q))) w) :
 Calls Tryz.prog 133 #[.slice (some ⟨g, 0, none⟩) N c, .int .i64 (a : Int), .int .i64 (m : Int), .int .i64 (b : Int), .func (.func f) #[] bd] w fun e w' => e = .returned (.tuple #[]) ∧ SRow V w0 g sp (P ++ (mrg lt L R ++ Q)) w' := by
 obtain ⟨ad, had⟩ : ∃ ad : Addr, ad = ⟨g, 0, none⟩ := ⟨_, rfl⟩
 rw [← had]
 have hbN : b ≤ N := by rw [← hN]; simp; omega
 obtain ⟨D0, hD0⟩ : ∃ D, D = P ++ (L ++ (R ++ Q)) := ⟨_, rfl⟩
 rw [← hD0] at hrow hN
 have HAD := hI had
 have HROW := hI hrow
 have HNN := hI hN
 have HLT := hI hlt
 have HC := hI hC
 obtain ⟨x0, hx0⟩ : ∃ x, R = [x] := by
  cases R with
  | nil => simp at hr; omega
  | cons x r => cases r with
    | nil => exact ⟨x, rfl⟩
    | cons y r => simp at hr; omega
 subst hx0
 have HEND : Hid (∀ i, BSt (fun h => !ltAt lt D0 m h) a m i i → ∃ l1 l2, mrg lt L [x0] = l1 ++ x0 :: l2 ∧ a + l1.length = i ∧ Sh (P ++ l1) l2 x0 Q m D0 (fun _ => True)) := fun i hs => by
  obtain ⟨r1, r2, _, e2, e3, e4⟩ := sym_one_right lt hw hD0 ha hl hL hs
  exact ⟨r1, r2, e2, e3, e4⟩
 have HPL : Hid (P.length = a) := ha
 obtain ⟨la, hla⟩ : ∃ k, k + a = m := ⟨m - a, by omega⟩
 have hw0 : IntKind.i64.wrap ((m : Int) - (a : Int)) = (la : Int) := by rw [IntKind.wrap_i64]; omega
 have hq0 : ((la : Int) == 1) = false := beq_eq_false_iff_ne.2 (by omega)
 have hw00 : IntKind.i64.wrap ((b : Int) - (m : Int)) = 1 := by rw [IntKind.wrap_i64]; omega
 clear had hrow hN hlt hC hw hD0 hL hR hl hr ha hla
 go_enter Tryz.func133, Tryz.ntmps133
 go_wp2_with fail
 go_loopw [14, 15, 16] (fun v10 v11 _ wr => ∃ (i j : Nat), v10 = .int .i64 (i : Int) ∧ v11 = .int .i64 (j : Int) ∧ BSt (fun h => !ltAt lt D0 m h) a m i j ∧ SRow V w0 g sp D0 wr) (fun v10 v11 _ _ => (intOf v11).toNat - (intOf v10).toNat)
 case atStart => exact ⟨a, m, rfl, rfl, BSt.start (by omega), HROW.out⟩
 case round =>
  clear hw0 hq0 hw00
  obtain ⟨i, j, rfl, rfl, hbs, hrow⟩ := hrel
  have hbl := hbs.l
  have hbr := hbs.r
  have hbm := hbs.m
  have HBS := hI hbs
  have HR := hI hrow
  clear hbs hrow
  rcases Nat.lt_or_ge i j with hij | hij
  ·have hcx : decide ((i : Int) < (j : Int)) = true := decide_eq_true (by omega)
   obtain ⟨h, hh⟩ : ∃ h, h = (i + j) / 2 := ⟨_, rfl⟩
   have hih : i ≤ h := by omega
   have hhj : h < j := by omega
   have hw1 : IntKind.i64.wrap ((i : Int) + (j : Int)) = ((i + j : Nat) : Int) := by rw [IntKind.wrap_i64]; omega
   have hz2 : ((i : Int) + (j : Int)) / 2 = (h : Int) := by omega
   have hwh : IntKind.i64.wrap ((h : Int) + 1) = ((h + 1 : Nat) : Int) := by rw [IntKind.wrap_i64]; omega
   obtain ⟨x, hx⟩ : ∃ x, D0[m]? = some x := ⟨_, List.getElem?_eq_getElem (by have := HNN.out; omega)⟩
   obtain ⟨y, hy⟩ : ∃ y, D0[h]? = some y := ⟨_, List.getElem?_eq_getElem (by have := HNN.out; omega)⟩
   have HX : Hid (D0[m]? = some x) := hx
   have HY : Hid (D0[h]? = some y) := hy
   have HVX : Hid (V x) := HR.out.ok x (List.mem_of_getElem? hx)
   have HVY : Hid (V y) := HR.out.ok y (List.mem_of_getElem? hy)
   have HL_m : Hid ((m : Int) < (N : Int)) := by show (m : Int) < _; omega
   have HL_h : Hid ((h : Int) < (N : Int)) := by show (h : Int) < _; omega
   obtain ⟨zc, hzc⟩ : ∃ zc, cf x y = zc := ⟨_, rfl⟩
   obtain ⟨t, ht⟩ : ∃ t, lt x y = t := ⟨_, rfl⟩
   have hzt := HLT.out x y HVX.out HVY.out
   rw [ht, hzc] at hzt
   have HZT := hI hzt
   have hcr := fun W (h : SRow V w0 g sp D0 W) => HC.out.at HVX.out HVY.out W h
   rw [hzc] at hcr
   have HCR := hI hcr
   have HAT : Hid (ltAt lt D0 m h = t) := by rw [Hid, ltAt_of lt hx hy, ht]
   have hrow0 := HR.out.drew
   clear hx hy hzc ht hzt hcr
   clear hh
   go_upto_region 17 with fail
   have mixed : Tryz.prog.follows .mixedOrders = true := by kernel_rfl
   refine wp_region_any mixed (wpAny_inv (YRJ V w0 g sp D0 ad N c f bd a m b i j h x y zc t _ _ _ _ _ _ _ _ _ _ _ _ _ _ _ _ _ _ _ _ _ _ _ _ _ _ _ _ _ _ _ _ _ _ _ _ _ _ _ _ _ _ _ _ _ _ _ _ _ _ _ _ _ _ _ _ _ _ _ _ _ _ _ _ _ _ _ _ _ _ _ _ _ _ _ _ _ _ _ _ _ _ _ _ _ _ _ _ _ _ _ _ _ _ _ _ _ _ _ _ _ _ _ _ _ _ _ _ _ _ _ _ _ _ _ _ _ _ _ _ _ _ _ _ _ _ _ _ _ _ _ _ _ _ _ _ _ _ _ _ _ _ _ _ _ _ _ _ _ _ _ _ _ _ _ _ _ _ _ _ _ _ _ _ _ _ _ _ _ _ _ _ _ _ _ _ _ _ _ _ _ _ _ _ _ _ _ _ _ _ _ _ _ _ _ _ _ _ _ _) ?stYR ?dnYR _ _ _ _ ⟨by simp, ⟨_, _, _, _, _, _, _, _, _, _, _, _, rfl, fun h => by simp at h, fun h => by simp at h, fun h => by simp at h, fun h => by simp at h, fun h => by simp at h, fun h => by simp at h, fun h => by simp at h, fun h => by simp at h, fun h => by simp at h, fun h => by simp at h, fun h => by simp at h, fun h => by simp at h, hrow0⟩⟩ (by decide))
   case dnYR =>
    intro L a w' hj hr
    have all := all_on hr hj.sz (by kernel_rfl)
    obtain ⟨s92, s93, s94, s95, s96, s97, s98, s99, s100, s101, s102, s103, rfl, hv⟩ := hj.fr
    have e11 := hv.k11 (all 11 (by omega))
    subst e11
    have HR1 := hI hv.r
    clear all hv hj hr
    cases t
    case false =>
     go_wp2_with fail
     go_roundw
     case rel => exact ⟨h + 1, j, by go_num, rfl, HBS.out.yes hih hhj (by rw [HAT.out]; rfl), HR1.out⟩
     case measure => simp [intOf]; omega
    case true =>
     go_wp2_with fail
     go_roundw
     case rel => exact ⟨i, h, rfl, rfl, HBS.out.no hih hhj (by rw [HAT.out]; rfl), HR1.out⟩
     case measure => simp [intOf]; omega
   case stYR =>
    intro L a w' hj i hi
    obtain ⟨hun, o, ho, hall⟩ := mem_ready.1 hi
    have hoff := getD_off hun
    have hlt := (Array.getElem?_eq_some_iff.1 ho).1
    simp at hlt
    obtain ⟨s92, s93, s94, s95, s96, s97, s98, s99, s100, s101, s102, s103, rfl, hv⟩ := hj.fr
    have HV := hI hv
    have HJ := hI hj
    clear hv hj
    rcases (show i = 0 ∨ i = 1 ∨ i = 2 ∨ i = 3 ∨ i = 4 ∨ i = 5 ∨ i = 6 ∨ i = 7 ∨ i = 8 ∨ i = 9 ∨ i = 10 ∨ i = 11 from by omega) with rfl | rfl | rfl | rfl | rfl | rfl | rfl | rfl | rfl | rfl | rfl | rfl
    all_goals simp at ho
    all_goals subst ho
    rotate_left
    rotate_left
    rotate_left
    cases HV.out.k1 (Hq hall 1).out
    cases HV.out.k2 (Hq hall 2).out
    have h0 := HL_m.out
    rotate_left
    cases HV.out.k3 (Hq hall 3).out
    obtain ⟨c0, c1, c2, c3, c4, c5, c6⟩ := HV.out.r.at' HAD.out HX.out
    rotate_left
    rotate_left
    rotate_left
    cases HV.out.k5 (Hq hall 5).out
    cases HV.out.k6 (Hq hall 6).out
    have h0 := HL_h.out
    rotate_left
    cases HV.out.k7 (Hq hall 7).out
    obtain ⟨c0, c1, c2, c3, c4, c5, c6⟩ := HV.out.r.at' HAD.out HY.out
    rotate_left
    ·cases HV.out.k0 (Hq hall 0).out
     cases HV.out.k4 (Hq hall 4).out
     cases HV.out.k8 (Hq hall 8).out
     clear hall hi
     have hen := HC.out.en
     refine wpOp_hid rfl fun K' HK => ?_
     go_simp
     refine (HCR.out w' HV.out.r).mono ?_
     rintro e wn ⟨rfl, bn⟩
     cases HV.out
     refine HK.out _ _ ⟨by simp [HJ.out.sz], ⟨_, _, _, _, _, _, _, _, _, _, _, _, rfl, ?_, ?_, ?_, ?_, ?_, ?_, ?_, ?_, ?_, fun _ => rfl, ?_, ?_, HV.out.r.below bn⟩⟩
     all_goals exact Um (by assumption)
    cases HV.out.k9 (Hq hall 9).out
    have hzt := HZT.out
    rotate_left
    cases HV.out.k10 (Hq hall 10).out
    rotate_left
    all_goals
     clear hall hi
     refine wpOp_hid rfl fun K' HK => ?_
     go_simp
     cases HV.out
     refine HK.out _ _ ⟨by simp [HJ.out.sz], ?_⟩
     iterate 12 apply Exists.intro
     refine ⟨rfl, ?_⟩
     constructor
     all_goals first | exact Um (by assumption) | exact Un (by assumption) | exact Uf (by assumption) | exact fun _ => rfl | assumption
  ·have hcx : decide ((i : Int) < (j : Int)) = false := decide_eq_false (by omega)
   obtain rfl : i = j := by omega
   obtain ⟨r1, r2, e1, e2, hsh⟩ := HEND.out i HBS.out
   have HSH := hI hsh
   have HE1 := hI e1
   have HBOT : Hid ((P ++ r1).length = i) := by rw [Hid, List.length_append, HPL.out]; omega
   clear e1 e2 hsh
   go_wp2_with fail
   go_loopw [17] (fun v wr => ∃ (k : Nat) (D : List Lot), v = .int .i64 (k : Int) ∧ i ≤ k ∧ k ≤ m ∧ D.length = N ∧ Sh (P ++ r1) r2 x0 Q k D (fun _ => True) ∧ SRow V w0 g sp D wr) (fun v _ => (intOf v).toNat)
   case atStart => exact ⟨m, D0, rfl, hbr, Nat.le_refl _, HNN.out, HSH.out, HR.out⟩
   case round =>
    clear HR HSH HBS
    obtain ⟨k, D, rfl, hak, hki, hlen, hsh, hrow⟩ := hrel
    have HR := hI hrow
    have HSH := hI hsh
    have HLEN := hI hlen
    rcases Nat.lt_or_ge i k with hlt | hge
    ·have hcx : decide ((k : Int) > (i : Int)) = true := decide_eq_true (by omega)
     have hcx' : decide ((i : Int) < (k : Int)) = true := hcx
     obtain ⟨kp, hkp⟩ : ∃ kp, kp + 1 = k := ⟨k - 1, by omega⟩
     have HKP := hI hkp
     have HW_kp : Hid (IntKind.i64.wrap ((k : Int) - 1) = (kp : Int)) := by rw [Hid, IntKind.wrap_i64]; omega
     obtain ⟨x, hx⟩ : ∃ x, D[k]? = some x := ⟨_, List.getElem?_eq_getElem (by omega)⟩
     obtain ⟨y, hy⟩ : ∃ y, D[kp]? = some y := ⟨_, List.getElem?_eq_getElem (by omega)⟩
     have HX : Hid (D[k]? = some x) := hx
     have HY : Hid (D[kp]? = some y) := hy
     have HYV : Hid ((D.set k y)[kp]? = some y) := by rw [Hid, List.getElem?_set_ne (by omega)]; exact hy
     have HVX : Hid (V x) := HR.out.ok x (List.mem_of_getElem? hx)
     have HVY : Hid (V y) := HR.out.ok y (List.mem_of_getElem? hy)
     have HL_k : Hid ((k : Int) < (N : Int)) := by show (k : Int) < _; omega
     have HL_kp : Hid ((kp : Int) < (N : Int)) := by show (kp : Int) < _; omega
     have HSTEP : Hid (Sh (P ++ r1) r2 x0 Q kp (swp D k kp) (fun _ => True)) := by
      have h := HSH.out.down (y := y) (by rw [HBOT.out]; exact hlt) (by rw [show k - 1 = kp from by omega]; exact hy) trivial
      rw [show k - 1 = kp from by omega] at h; exact h
     have hrow0 := HR.out.drew
     clear hx hy hlen hsh hrow hkp
     go_upto_region 23 with fail
     have mixed : Tryz.prog.follows .mixedOrders = true := by kernel_rfl
     refine wp_region_any mixed (wpAny_inv (YDJ V w0 g sp D ad N c f bd a m b i k kp x y _ _ _ _ _ _ _ _ _ _ _ _ _ _ _ _ _ _ _ _ _ _ _ _ _ _ _ _ _ _ _ _ _ _ _ _ _ _ _ _ _ _ _ _ _ _ _ _ _ _ _ _ _ _ _ _ _ _ _ _ _ _ _ _ _ _ _ _ _ _ _ _ _ _ _ _ _ _ _ _ _ _ _ _ _ _ _ _ _ _ _ _ _ _ _ _ _ _ _ _ _ _ _ _ _ _ _ _ _ _ _ _ _ _ _ _ _ _ _ _ _ _ _ _ _ _ _ _ _ _ _ _ _ _ _ _ _ _ _ _ _ _ _ _ _ _ _ _ _ _ _ _ _ _ _ _ _ _ _ _ _ _ _ _ _ _ _ _ _ _ _ _ _ _ _ _ _ _ _ _ _ _ _ _ _ _ _ _ _ _ _ _ _ _ _ _ _) ?stYD ?dnYD _ _ _ _ ⟨by simp, ⟨_, _, _, _, _, _, _, _, _, _, _, _, _, _, _, _, rfl, fun h => by simp at h, fun h => by simp at h, fun h => by simp at h, fun h => by simp at h, fun h => by simp at h, fun h => by simp at h, fun h => by simp at h, fun h => by simp at h, fun h => by simp at h, fun h => by simp at h, fun h => by simp at h, fun h => by simp at h, fun h => by simp at h, fun h => by simp at h, fun h => by simp at h, fun h => by simp at h, fun _ => hrow0, fun h => by simp at h, fun h => by simp at h, fun h => by simp at h, fun h => by simp at h⟩⟩ (by decide))
     case dnYD =>
      intro L a w' hj hr
      have all := all_on hr hj.sz (by kernel_rfl)
      obtain ⟨s113, s114, s115, s116, s117, s118, s119, s120, s121, s122, s123, s124, s125, s126, s127, s128, rfl, hv⟩ := hj.fr
      have HRW := hI (hv.r2 (all 17 (by omega)))
      clear all hv hj hr
      have hwr := HW_kp.out
      go_wp2_with fail
      go_roundw
      case rel => exact ⟨kp, _, rfl, by have := HKP.out; omega, by have := HKP.out; omega, by rw [List.length_set, List.length_set]; exact HLEN.out, by have h := HSTEP.out; rw [swp_at HX.out HY.out] at h; exact h, HRW.out⟩
      case measure => have := HKP.out; simp [intOf]; omega
     case stYD =>
      intro L a w' hj i hi
      obtain ⟨hun, o, ho, hall⟩ := mem_ready.1 hi
      have hoff := getD_off hun
      have hlt := (Array.getElem?_eq_some_iff.1 ho).1
      simp at hlt
      obtain ⟨s113, s114, s115, s116, s117, s118, s119, s120, s121, s122, s123, s124, s125, s126, s127, s128, rfl, hv⟩ := hj.fr
      have HV := hI hv
      have HJ := hI hj
      clear hv hj
      rcases (show i = 0 ∨ i = 1 ∨ i = 2 ∨ i = 3 ∨ i = 4 ∨ i = 5 ∨ i = 6 ∨ i = 7 ∨ i = 8 ∨ i = 9 ∨ i = 10 ∨ i = 11 ∨ i = 12 ∨ i = 13 ∨ i = 14 ∨ i = 15 ∨ i = 16 ∨ i = 17 from by omega) with rfl | rfl | rfl | rfl | rfl | rfl | rfl | rfl | rfl | rfl | rfl | rfl | rfl | rfl | rfl | rfl | rfl | rfl
      all_goals simp at ho
      all_goals subst ho
      rotate_left
      rotate_left
      rotate_left
      rotate_left
      cases HV.out.k3 (Hq hall 3).out
      have h0 := HW_kp.out
      rotate_left
      rotate_left
      rotate_left
      cases HV.out.k6 (Hq hall 6).out
      have h0 := HW_kp.out
      rotate_left
      cases HV.out.k5 (Hq hall 5).out
      cases HV.out.k7 (Hq hall 7).out
      have h0 := HL_kp.out
      rotate_left
      cases HV.out.k8 (Hq hall 8).out
      have ho : L.getD 15 false = false := by rcases off_or_on L 15 with h | h; exact h; exact (not_on hoff (HV.out.q1 h).2).elim
      obtain ⟨c0, c1, c2, c3, c4, c5, c6⟩ := (HV.out.r0 ho).at' HAD.out HY.out
      rotate_left
      rotate_left
      rotate_left
      cases HV.out.k10 (Hq hall 10).out
      cases HV.out.k11 (Hq hall 11).out
      have h0 := HL_k.out
      rotate_left
      cases HV.out.k12 (Hq hall 12).out
      have ho : L.getD 15 false = false := by rcases off_or_on L 15 with h | h; exact h; exact (not_on hoff (HV.out.q1 h).1).elim
      obtain ⟨c0, c1, c2, c3, c4, c5, c6⟩ := (HV.out.r0 ho).at' HAD.out HX.out
      rotate_left
      cases HV.out.k0 (Hq hall 0).out
      cases HV.out.k1 (Hq hall 1).out
      have h0 := HL_k.out
      rotate_left
      ·have H9 := Hq hall 9
       have H13 := Hq hall 13
       cases HV.out.k14 (Hq hall 14).out
       cases HV.out.k9 (Hq hall 9).out
       clear hall hi
       have ho2 : L.getD 17 false = false := by rcases off_or_on L 17 with h | h; exact h; exact (not_on hoff (HV.out.q2 h)).elim
       obtain ⟨wn, hrun, hrow⟩ := (HV.out.r0 hoff).st HAD.out HX.out HVY.out
       refine wpOp_hid rfl fun K' HK => ?_
       refine step_store_run hrun rfl _ _ rfl rfl rfl ?_
       go_simp
       cases HV.out
       refine HK.out _ _ ⟨by simp [HJ.out.sz], ⟨_, _, _, _, _, _, _, _, _, _, _, _, _, _, _, _, rfl, ?_, ?_, ?_, ?_, ?_, ?_, ?_, ?_, ?_, ?_, ?_, ?_, ?_, ?_, ?_, ?_, fun h => (not_on h (getD_set_same hun)).elim, fun _ _ => hrow, fun h => (not_on hoff (HV.out.q2 (Uz h))).elim, fun _ => ⟨getD_up hun H13.out, getD_up hun H9.out⟩, fun h => (not_on hoff (HV.out.q2 (Uz h))).elim⟩⟩
       all_goals exact Um (by assumption)
      cases HV.out.k2 (Hq hall 2).out
      cases HV.out.k4 (Hq hall 4).out
      have h0 := HL_kp.out
      rotate_left
      ·have H15 := Hq hall 15
       cases HV.out.k16 (Hq hall 16).out
       cases HV.out.k13 (Hq hall 13).out
       clear hall hi
       obtain ⟨wn, hrun, hrow⟩ := (HV.out.r1 H15.out hoff).st HAD.out HYV.out HVX.out
       refine wpOp_hid rfl fun K' HK => ?_
       refine step_store_run hrun rfl _ _ rfl rfl rfl ?_
       go_simp
       cases HV.out
       refine HK.out _ _ ⟨by simp [HJ.out.sz], ⟨_, _, _, _, _, _, _, _, _, _, _, _, _, _, _, _, rfl, ?_, ?_, ?_, ?_, ?_, ?_, ?_, ?_, ?_, ?_, ?_, ?_, ?_, ?_, ?_, ?_, fun h => (not_on (Dz h) H15.out).elim, fun _ h => (not_on h (getD_set_same hun)).elim, fun _ => hrow, fun h => ⟨getD_up hun (HV.out.q1 (Uz h)).1, getD_up hun (HV.out.q1 (Uz h)).2⟩, fun _ => getD_up hun H15.out⟩⟩
       all_goals exact Um (by assumption)
      all_goals
       clear hall hi
       refine wpOp_hid rfl fun K' HK => ?_
       go_simp
       cases HV.out
       refine HK.out _ _ ⟨by simp [HJ.out.sz], ?_⟩
       iterate 16 apply Exists.intro
       refine ⟨rfl, ?_⟩
       constructor
       all_goals first | exact Um (by assumption) | exact Un (by assumption) | exact Uf (by assumption) | exact fun _ => rfl | assumption | exact Uq hun (by assumption) | exact Uq2 hun (by assumption) | exact Uq3 hun (by assumption)
    ·have hcx : decide ((k : Int) > (i : Int)) = false := decide_eq_false (by omega)
     have hcx' : decide ((i : Int) < (k : Int)) = false := hcx
     have HF : Hid (SRow V w0 g sp (P ++ (mrg lt L [x0] ++ Q)) wr) := HR.out.same (by rw [HE1.out, HSH.out.bot (by rw [HBOT.out]; omega)]; simp)
     clear hsh hrow hlen
     go_wp2_with fail
     refine bodyPost_ret (results_none rfl _ _ _) rfl ?_
     exact ⟨rfl, HF.out⟩
end Go.Proofs.YtjlakdocjpmblaaGreatDoor
