/-
  Fractions: Of, Parts, Check.
  decimal.even and decimal.Round, to the nearest integer.
  The walks of date.Of, date.Parts.
  The walk of date.Print.
  Plain law: the sum of rounded numbers is near the rounded sum (less than the number of them).
-/
import Derived.Test.YtjlakdocjpmblaaGreatDoorK16
set_option linter.unusedVariables false
set_option linter.unusedSimpArgs false
set_option maxHeartbeats 16000000
set_option maxRecDepth 100000
namespace Go.Proofs.YtjlakdocjpmblaaGreatDoor
open Go.RowKit Tr Go.Shelf
theorem fParts_any (n d : ByteArray) (w : World) (s1 : n.size ≤ 2000000) (s2 : d.size ≤ 2000000) (ht : Tabs w) :
 Calls Tryz.prog 150 #[.agg #[.string n, .string d]] w fun e w' => e = .returned (.tuple #[.string (I (fv n d).num), .string (I ((fv n d).den : Int))]) ∧ Below w.heap.size w w' := by
 have HB := Lib.hid ((Below.refl _ w).alloc (Nat.le_refl _) (Obj.cells #[.string n, .string d] 141))
 have HP := Lib.hid (parts_any n d (w.alloc (Obj.cells #[.string n, .string d] 141)) (by omega))
 obtain ⟨W0, hW0⟩ : ∃ W0, w.alloc (Obj.cells #[.string n, .string d] 141) = W0 := ⟨_, rfl⟩
 have hk : W0.heap[w.heap.size]? = some (Obj.cells #[.string n, .string d] 141) := by rw [← hW0]; exact heap_alloc_new w _
 rw [hW0] at HB HP
 have b0 := Lib.cell_of_heap hk 0
 have b1 := Lib.cell_of_heap hk 1
 simp at b0 b1
 have HT := Lib.hid ht
 have hdd := dd_size d
 clear ht
 go_enter Tryz.func150, Tryz.ntmps150
 go_wp2_with fail
 refine HP.out.mono ?_
 rintro e w1 ⟨rfl, B1⟩
 have HB1 := Lib.hid (HB.out.trans (B1.mono HB.out.size))
 clear B1 HB hk b0 b1 HP
 go_wp2_with fail
 refine (reduced_any n (dd d) w1 (by omega) (by omega) (dd_ne d) (HT.out.below HB1.out)).mono ?_
 rintro e w2 ⟨rfl, B2⟩
 go_wp2_with fail
 go_ret2
 exact ⟨rfl, HB1.out.trans (B2.mono HB1.out.size)⟩
def CanQ (n d : ByteArray) : Prop := n = I (fv n d).num ∧ d = dn (fv n d)
theorem toList_nil (z : Int) : ((I z).toList == []) = decide (z = 0) := by
 rw [show ([] : List UInt8) = (I 0).toList from by rw [Lib.toList_data]; rfl]
 by_cases h : z = 0
 ·subst h; simp
 ·rw [neq_toList (fun e => h (I_inj e))]; simp [h]
theorem dr_pos {a b : Int} (h : 0 < b) : dr a b = a % b := by
 unfold dr; rw [dq_pos h]; have := Int.emod_add_mul_ediv a b; omega
theorem even_any (a : ByteArray) (w : World) (s1 : a.size ≤ 3000000) (ht : Tabs w) :
 Calls Tryz.prog 152 #[.string a] w fun e w' => e = .returned (.bool (decide (vl a % 2 = 0))) ∧ Below w.heap.size w w' := by
 have HD := Lib.hid (Div_any a ⟨#[50]⟩ w (by omega) (by show 1 ≤ _; omega) (by rw [show (⟨#[50]⟩ : ByteArray) = I 2 from rfl, vl_I]; omega) ht)
 rw [show vl (⟨#[50]⟩ : ByteArray) = 2 from by rw [show (⟨#[50]⟩ : ByteArray) = I 2 from rfl, vl_I], dr_pos (by omega)] at HD
 have hl := toList_nil (vl a % 2)
 clear ht
 go_enter Tryz.func152, Tryz.ntmps152
 go_wp2_with fail
 refine HD.out.mono ?_
 rintro e w1 ⟨rfl, B1⟩
 clear HD
 go_wp2_with fail
 go_ret
 exact ⟨rfl, B1⟩
def rnd (q : Rat) : Int := if (q.den : Int) < 2 * (q.num % q.den) ∨ ((q.den : Int) = 2 * (q.num % q.den) ∧ q.num / q.den % 2 ≠ 0) then q.num / q.den + 1 else q.num / q.den
theorem Round_any (n d : ByteArray) (w : World) (s1 : n.size ≤ 1000000) (s2 : d.size ≤ 1000000) (ht : Tabs w) :
 Calls Tryz.prog 121 #[.agg #[.string n, .string d], .int .i64 1] w fun e w' => e = .returned (.tuple #[.string (I (rnd (fv n d))), .int .i64 0]) ∧ Below w.heap.size w w' := by
 have HB := Lib.hid ((Below.refl _ w).alloc (Nat.le_refl _) (Obj.cells #[.string n, .string d] 141))
 have HP := Lib.hid (fParts_any n d (w.alloc (Obj.cells #[.string n, .string d] 141)) (by omega) (by omega) (ht.below HB.out))
 obtain ⟨W0, hW0⟩ : ∃ W0, w.alloc (Obj.cells #[.string n, .string d] 141) = W0 := ⟨_, rfl⟩
 have hk : W0.heap[w.heap.size]? = some (Obj.cells #[.string n, .string d] 141) := by rw [← hW0]; exact heap_alloc_new w _
 rw [hW0] at HB HP
 have b0 := Lib.cell_of_heap hk 0
 have b1 := Lib.cell_of_heap hk 1
 simp at b0 b1
 have HT := Lib.hid ht
 obtain ⟨K, hK⟩ : ∃ K, K = 1000001 := ⟨_, rfl⟩
 have hbd := fv_bd n d (k := K) (by omega) (by omega)
 have zn := hbd.num
 have zd := hbd.den
 have hdp := (fv n d).den_pos
 generalize hq : fv n d = q at *
 have HQ := Lib.hid hq
 have zl : (I (q.num / q.den)).size ≤ K + 1 := I_size_le (k := K) (Nat.lt_of_le_of_lt (Int.natAbs_ediv_le_natAbs _ _) hbd.1)
 have zr : (I (q.num % q.den)).size ≤ K + 1 := I_size_le (k := K) (Nat.lt_trans (by
  have h1 := Int.emod_nonneg q.num (b := (q.den : Int)) (by omega); have h2 := Int.emod_lt_of_pos q.num (b := (q.den : Int)) (by omega); omega) hbd.2)
 have r1 := Int.emod_nonneg q.num (b := (q.den : Int)) (by omega)
 have r2 := Int.emod_lt_of_pos q.num (b := (q.den : Int)) (by omega)
 clear ht hk hbd hq
 have hone : (⟨#[49]⟩ : ByteArray) = I 1 := rfl
 go_enter Tryz.func121, Tryz.ntmps121
 go_wp2_with fail
 refine HP.out.mono ?_
 rintro e w1 ⟨rfl, B1⟩
 have B1 := HB.out.trans (B1.mono HB.out.size)
 clear HP HB b0 b1
 go_wp2_with fail
 refine (Div_any (I q.num) (I q.den) w1 (by omega) (by omega) (by rw [vl_I]; omega) (HT.out.below B1)).mono ?_
 rintro e w2 ⟨rfl, B2⟩
 have B2 := B1.trans (B2.mono B1.size)
 rw [vl_I, vl_I, dq_pos (by omega), dr_pos (by omega)]
 clear B1
 have HL := toList_nil (q.num % q.den)
 have hm : ((1 : Int) == 1) = true := rfl
 obtain ⟨lo, hlo⟩ : ∃ lo, lo = q.num / q.den := ⟨_, rfl⟩
 obtain ⟨re, hre⟩ : ∃ re, re = q.num % q.den := ⟨_, rfl⟩
 rw [← hlo] at zl
 rw [← hre] at zr HL r1 r2
 rw [← hlo, ← hre]
 have HLO := Lib.hid hlo
 have HRE := Lib.hid hre
 clear hlo hre
 by_cases h0 : re = 0
 ·rw [decide_eq_true h0] at HL
  have H0 := Lib.hid h0
  clear h0
  go_wp2_with fail
  refine (Compare_any (I q.num) ⟨#[]⟩ w2 (by omega) (by show 0 ≤ _; omega)).mono ?_
  rintro e w4 ⟨rfl, B4⟩
  have B4 := B2.trans (B4.mono B2.size)
  rw [vl_I, show vl (⟨#[]⟩ : ByteArray) = 0 from by rw [zero_eq, vl_I]]
  clear B2
  go_wp2_with fail
  refine (Add_any (I re) (I re) w4 (by omega) (by omega) (HT.out.below B4)).mono ?_
  rintro e w5 ⟨rfl, B5⟩
  have B5 := B4.trans (B5.mono B4.size)
  rw [vl_I]
  clear B4
  have zz : (I (re + re)).size ≤ K + K + 10 := (by
   refine Nat.le_trans (I_size_le (k := (I re).size + 1) (two_lt _ ?_)) (by omega)
   have := vl_lt (I re)
   rw [vl_I] at this
   omega)
  go_wp2_with fail
  refine (Compare_any (I (re + re)) (I q.den) w5 (by omega) (by omega)).mono ?_
  rintro e w6 ⟨rfl, B6⟩
  have B6 := B5.trans (B6.mono B5.size)
  rw [vl_I, vl_I]
  clear B5
  have hc : cmpI (re + re) q.den < 0 := cmpI_lt.2 (by have := H0.out; omega)
  have HC := Lib.hid hc
  have h1 : decide (0 < cmpI (re + re) q.den) = false := decide_eq_false (by omega)
  have h2 : (cmpI (re + re) q.den == 0) = false := beq_eq_false_iff_ne.2 (by omega)
  clear hc
  go_wp2_with fail
  go_ret2
  refine ⟨?_, B6⟩
  have h0 := H0.out
  have hc := HC.out
  unfold rnd
  rw [← HLO.out, ← HRE.out]
  rw [if_neg (by omega)]; rfl
 ·rw [decide_eq_false h0] at HL
  have H0 := Lib.hid h0
  clear h0
  go_wp2_with fail
  refine (Add_any (I lo) (I 1) w2 (by omega) (by show 1 ≤ _; omega) (HT.out.below B2)).mono ?_
  rintro e w3 ⟨rfl, B3⟩
  have B3 := B2.trans (B3.mono B2.size)
  rw [vl_I, vl_I]
  clear B2
  go_wp2_with fail
  refine (Compare_any (I q.num) ⟨#[]⟩ w3 (by omega) (by show 0 ≤ _; omega)).mono ?_
  rintro e w4 ⟨rfl, B4⟩
  have B4 := B3.trans (B4.mono B3.size)
  rw [vl_I, show vl (⟨#[]⟩ : ByteArray) = 0 from by rw [zero_eq, vl_I]]
  clear B3
  go_wp2_with fail
  refine (Add_any (I re) (I re) w4 (by omega) (by omega) (HT.out.below B4)).mono ?_
  rintro e w5 ⟨rfl, B5⟩
  have B5 := B4.trans (B5.mono B4.size)
  rw [vl_I]
  clear B4
  have zz : (I (re + re)).size ≤ K + K + 10 := (by
   refine Nat.le_trans (I_size_le (k := (I re).size + 1) (two_lt _ ?_)) (by omega)
   have := vl_lt (I re)
   rw [vl_I] at this
   omega)
  go_wp2_with fail
  refine (Compare_any (I (re + re)) (I q.den) w5 (by omega) (by omega)).mono ?_
  rintro e w6 ⟨rfl, B6⟩
  have B6 := B5.trans (B6.mono B5.size)
  rw [vl_I, vl_I]
  clear B5
  rcases Int.lt_trichotomy (re + re) q.den with hc | hc | hc
  ·have HC := Lib.hid hc
   have h1 : decide (0 < cmpI (re + re) q.den) = false := decide_eq_false (by rw [cmpI_gt]; omega)
   have h2 : (cmpI (re + re) q.den == 0) = false := beq_eq_false_iff_ne.2 (by rw [Ne, cmpI_eq]; omega)
   clear hc
   go_wp2_with fail
   go_ret2
   refine ⟨?_, B6⟩
   have h0 := H0.out
   have hc := HC.out
   unfold rnd
   rw [← HLO.out, ← HRE.out]
   rw [if_neg (by omega)]; rfl
  ·have HC := Lib.hid hc
   have h1 : decide (0 < cmpI (re + re) q.den) = false := decide_eq_false (by rw [cmpI_gt]; omega)
   have h2 : (cmpI (re + re) q.den == 0) = true := beq_iff_eq.2 (cmpI_eq.2 hc)
   clear hc
   go_wp2_with fail
   refine (even_any (I lo) w6 (by omega) (HT.out.below B6)).mono ?_
   rintro e w7 ⟨rfl, B7⟩
   have B7 := B6.trans (B7.mono B6.size)
   rw [vl_I]
   by_cases he : lo % 2 = 0
   ·have he' : decide (lo % 2 = 0) = true := decide_eq_true he
    have HE := Lib.hid he
    clear he
    go_wp2_with fail
    go_ret2
    refine ⟨?_, B7⟩
    have h0 := H0.out
    have hc := HC.out
    unfold rnd
    rw [← HLO.out, ← HRE.out]
    rw [if_neg (by have := HE.out; omega)]; rfl
   ·have he' : decide (lo % 2 = 0) = false := decide_eq_false he
    have HE := Lib.hid he
    clear he
    go_wp2_with fail
    go_ret2
    refine ⟨?_, B7⟩
    have h0 := H0.out
    have hc := HC.out
    unfold rnd
    rw [← HLO.out, ← HRE.out]
    rw [if_pos (by have := HE.out; omega)]; rfl
  ·have HC := Lib.hid hc
   have h1 : decide (0 < cmpI (re + re) q.den) = true := decide_eq_true (by rw [cmpI_gt]; omega)
   clear hc
   go_wp2_with fail
   go_ret2
   refine ⟨?_, B6⟩
   have h0 := H0.out
   have hc := HC.out
   unfold rnd
   rw [← HLO.out, ← HRE.out]
   rw [if_pos (by omega)]; rfl
def okDay (d : Int) : Prop := -25567 ≤ d ∧ d ≤ 84005
instance (d : Int) : Decidable (okDay d) := by unfold okDay; infer_instance
theorem Itoa_any (n : Int) (h0 : -9223372036854775808 ≤ n) (h1 : n ≤ 9223372036854775807) (w : World) (ht : Tabs w) :
 Calls Tryz.prog 130 #[.int .i64 n] w fun e w' => e = .returned (.string (bs (Lib.itoa n))) ∧ Below w.heap.size w w' := by
 refine (Tryz.strconv_Itoa n h0 h1 w ht.pow10).mono ?_
 rintro e w1 ⟨rfl, k, os, rfl⟩
 exact ⟨rfl, below_grow os k⟩
def two (n : Nat) : List UInt8 := List.replicate (2 - (Lib.itoa (n : Int)).length) 48 ++ Lib.itoa (n : Int)
end Go.Proofs.YtjlakdocjpmblaaGreatDoor
namespace Go.Proofs.YtjlakdocjpmblaaGreatDoor
theorem rnd_int (q : Rat) : 2 * (rnd q * q.den - q.num).natAbs ≤ q.den := by
 have hp : (0 : Int) < q.den := by have := q.den_pos; omega
 have h1 := Int.emod_nonneg q.num (b := (q.den : Int)) (by omega)
 have h2 := Int.emod_lt_of_pos q.num hp
 have h3 := Int.emod_add_mul_ediv q.num q.den
 have h4 : (q.num / q.den + 1) * (q.den : Int) = q.den * (q.num / q.den) + q.den := by
  rw [Int.add_mul, Int.one_mul, Int.mul_comm]
 have h5 : (q.num / q.den) * (q.den : Int) = q.den * (q.num / q.den) := Int.mul_comm _ _
 unfold rnd
 split
 ·rw [h4]; omega
 ·rw [h5]; omega
end Go.Proofs.YtjlakdocjpmblaaGreatDoor
