/-
  Fractions: Of, Parts, Check.
  decimal.even and decimal.Round, to the nearest integer.
  Days and dates, plainly.
  The walks of the package date.
  The walks of date.Of, date.Parts.
  The walk of date.Print.
  Plain law: the sum of rounded numbers is near the rounded sum (less than the number of them).
  The walks of trancheref02.Canonical, Check (short numbers). (Printed by gen_ref8.py.)
  The walks of trancheref02.Compare, Sign (short numbers).
-/
import Derived.Test.YtdnmpgoigagjmaaGreatDoorA18
import Derived.Test.YtdnmpgoigagjmaaGreatDoorA16
import Derived.Test.YtdnmpgoigagjmaaGreatDoorA20
set_option linter.unusedVariables false
set_option linter.unusedSimpArgs false
namespace Go.Proofs.YtdnmpgoigagjmaaGreatDoor
open Go.RowKit Tr Go.Shelf
theorem divInt_one' (a : Int) : Rat.divInt a 1 = (a : Rat) := Rat.num_divInt_den (a : Rat)
set_option maxHeartbeats 2000000 in
theorem fParts_any (n d : ByteArray) (w : World) (s1 : n.size ≤ 2000000) (s2 : d.size ≤ 2000000) (ht : Tabs w) :
 Calls Tryz.prog 203 #[.agg #[.string n, .string d]] w fun e w' => e = .returned (.tuple #[.string (I (fv n d).num), .string (I ((fv n d).den : Int))]) ∧ Below w.heap.size w w' := by
 have HB := Lib.hid ((Below.refl _ w).alloc (Nat.le_refl _) (Obj.cells #[.string n, .string d] 55))
 have HP := Lib.hid (parts_any n d (w.alloc (Obj.cells #[.string n, .string d] 55)) (by omega))
 obtain ⟨W0, hW0⟩ : ∃ W0, w.alloc (Obj.cells #[.string n, .string d] 55) = W0 := ⟨_, rfl⟩
 have hk : W0.heap[w.heap.size]? = some (Obj.cells #[.string n, .string d] 55) := by rw [← hW0]; exact heap_alloc_new w _
 rw [hW0] at HB HP
 have b0 := Lib.cell_of_heap hk 0
 have b1 := Lib.cell_of_heap hk 1
 simp at b0 b1
 have HT := Lib.hid ht
 have hdd := dd_size d
 clear ht
 go_enter Tryz.func203, Tryz.ntmps203
 go_wp2_with fail
 refine HP.out.mono ?_
 rintro e w1 ⟨rfl, B1⟩
 have HB1 := Lib.hid (HB.out.trans (B1.mono HB.out.size))
 clear B1 HB hk b0 b1 HP
 go_wp2_with fail
 refine (reduced_any n (dd d) w1 (by omega) (by omega) (dd_ne d) (HT.out.below HB1.out)).mono ?_
 rintro e w2 ⟨rfl, B2⟩
 go_wp2_with fail
 go_ret2
 exact ⟨rfl, HB1.out.trans (B2.mono HB1.out.size)⟩
def CanQ (n d : ByteArray) : Prop := n = I (fv n d).num ∧ d = dn (fv n d)
end Go.Proofs.YtdnmpgoigagjmaaGreatDoor
namespace Go.Proofs.YtdnmpgoigagjmaaGreatDoor
open Go.RowKit Tr Go.Shelf
theorem toList_nil (z : Int) : ((I z).toList == []) = decide (z = 0) := by
 rw [show ([] : List UInt8) = (I 0).toList from by rw [Lib.toList_data]; rfl]
 by_cases h : z = 0
 ·subst h; simp
 ·rw [neq_toList (fun e => h (I_inj e))]; simp [h]
theorem dr_pos {a b : Int} (h : 0 < b) : dr a b = a % b := by
 unfold dr; rw [dq_pos h]; have := Int.emod_add_mul_ediv a b; omega
set_option maxHeartbeats 1000000 in
theorem even_any (a : ByteArray) (w : World) (s1 : a.size ≤ 3000000) (ht : Tabs w) :
 Calls Tryz.prog 205 #[.string a] w fun e w' => e = .returned (.bool (decide (vl a % 2 = 0))) ∧ Below w.heap.size w w' := by
 have HD := Lib.hid (Div_any a ⟨#[50]⟩ w (by omega) (by show 1 ≤ _; omega) (by rw [show (⟨#[50]⟩ : ByteArray) = I 2 from rfl, vl_I]; omega) ht)
 rw [show vl (⟨#[50]⟩ : ByteArray) = 2 from by rw [show (⟨#[50]⟩ : ByteArray) = I 2 from rfl, vl_I], dr_pos (by omega)] at HD
 have hl := toList_nil (vl a % 2)
 clear ht
 go_enter Tryz.func205, Tryz.ntmps205
 go_wp2_with fail
 refine HD.out.mono ?_
 rintro e w1 ⟨rfl, B1⟩
 clear HD
 go_wp2_with fail
 go_ret
 exact ⟨rfl, B1⟩
def rnd (q : Rat) : Int := if (q.den : Int) < 2 * (q.num % q.den) ∨ ((q.den : Int) = 2 * (q.num % q.den) ∧ q.num / q.den % 2 ≠ 0) then q.num / q.den + 1 else q.num / q.den
set_option maxHeartbeats 4000000 in
set_option maxRecDepth 100000 in
theorem Round_any (n d : ByteArray) (w : World) (s1 : n.size ≤ 1000000) (s2 : d.size ≤ 1000000) (ht : Tabs w) :
 Calls Tryz.prog 168 #[.agg #[.string n, .string d], .int .i64 1] w fun e w' => e = .returned (.tuple #[.string (I (rnd (fv n d))), .int .i64 0]) ∧ Below w.heap.size w w' := by
 have HB := Lib.hid ((Below.refl _ w).alloc (Nat.le_refl _) (Obj.cells #[.string n, .string d] 55))
 have HP := Lib.hid (fParts_any n d (w.alloc (Obj.cells #[.string n, .string d] 55)) (by omega) (by omega) (ht.below HB.out))
 obtain ⟨W0, hW0⟩ : ∃ W0, w.alloc (Obj.cells #[.string n, .string d] 55) = W0 := ⟨_, rfl⟩
 have hk : W0.heap[w.heap.size]? = some (Obj.cells #[.string n, .string d] 55) := by rw [← hW0]; exact heap_alloc_new w _
 rw [hW0] at HB HP
 have b0 := Lib.cell_of_heap hk 0
 have b1 := Lib.cell_of_heap hk 1
 simp at b0 b1
 have HT := Lib.hid ht
 obtain ⟨K, hK⟩ : ∃ K, K = 1000001 := ⟨_, rfl⟩
 have hbd := fv_bd n d (k := K) (by omega) (by omega)
 have zn := hbd.num
 have zd := hbd.den
 have hdp := (fv n d).den_pos
 generalize hq : fv n d = q at *
 have HQ := Lib.hid hq
 have zl : (I (q.num / q.den)).size ≤ K + 1 := I_size_le (k := K) (Nat.lt_of_le_of_lt (Int.natAbs_ediv_le_natAbs _ _) hbd.1)
 have zr : (I (q.num % q.den)).size ≤ K + 1 := I_size_le (k := K) (Nat.lt_trans (by
  have h1 := Int.emod_nonneg q.num (b := (q.den : Int)) (by omega); have h2 := Int.emod_lt_of_pos q.num (b := (q.den : Int)) (by omega); omega) hbd.2)
 have r1 := Int.emod_nonneg q.num (b := (q.den : Int)) (by omega)
 have r2 := Int.emod_lt_of_pos q.num (b := (q.den : Int)) (by omega)
 clear ht hk hbd hq
 have hone : (⟨#[49]⟩ : ByteArray) = I 1 := rfl
 go_enter Tryz.func168, Tryz.ntmps168
 go_wp2_with fail
 refine HP.out.mono ?_
 rintro e w1 ⟨rfl, B1⟩
 have B1 := HB.out.trans (B1.mono HB.out.size)
 clear HP HB b0 b1
 go_wp2_with fail
 refine (Div_any (I q.num) (I q.den) w1 (by omega) (by omega) (by rw [vl_I]; omega) (HT.out.below B1)).mono ?_
 rintro e w2 ⟨rfl, B2⟩
 have B2 := B1.trans (B2.mono B1.size)
 rw [vl_I, vl_I, dq_pos (by omega), dr_pos (by omega)]
 clear B1
 have HL := toList_nil (q.num % q.den)
 have hm : ((1 : Int) == 1) = true := rfl
 obtain ⟨lo, hlo⟩ : ∃ lo, lo = q.num / q.den := ⟨_, rfl⟩
 obtain ⟨re, hre⟩ : ∃ re, re = q.num % q.den := ⟨_, rfl⟩
 rw [← hlo] at zl
 rw [← hre] at zr HL r1 r2
 rw [← hlo, ← hre]
 have HLO := Lib.hid hlo
 have HRE := Lib.hid hre
 clear hlo hre
 by_cases h0 : re = 0
 ·rw [decide_eq_true h0] at HL
  have H0 := Lib.hid h0
  clear h0
  go_wp2_with fail
  refine (Compare_any (I q.num) ⟨#[]⟩ w2 (by omega) (by show 0 ≤ _; omega)).mono ?_
  rintro e w4 ⟨rfl, B4⟩
  have B4 := B2.trans (B4.mono B2.size)
  rw [vl_I, show vl (⟨#[]⟩ : ByteArray) = 0 from by rw [zero_eq, vl_I]]
  clear B2
  go_wp2_with fail
  refine (Add_any (I re) (I re) w4 (by omega) (by omega) (HT.out.below B4)).mono ?_
  rintro e w5 ⟨rfl, B5⟩
  have B5 := B4.trans (B5.mono B4.size)
  rw [vl_I]
  clear B4
  have zz : (I (re + re)).size ≤ K + K + 10 := (by
   refine Nat.le_trans (I_size_le (k := (I re).size + 1) (two_lt _ ?_)) (by omega)
   have := vl_lt (I re)
   rw [vl_I] at this
   omega)
  go_wp2_with fail
  refine (Compare_any (I (re + re)) (I q.den) w5 (by omega) (by omega)).mono ?_
  rintro e w6 ⟨rfl, B6⟩
  have B6 := B5.trans (B6.mono B5.size)
  rw [vl_I, vl_I]
  clear B5
  have hc : cmpI (re + re) q.den < 0 := cmpI_lt.2 (by have := H0.out; omega)
  have HC := Lib.hid hc
  have h1 : decide (0 < cmpI (re + re) q.den) = false := decide_eq_false (by omega)
  have h2 : (cmpI (re + re) q.den == 0) = false := beq_eq_false_iff_ne.2 (by omega)
  clear hc
  go_wp2_with fail
  go_ret2
  refine ⟨?_, B6⟩
  have h0 := H0.out
  have hc := HC.out
  unfold rnd
  rw [← HLO.out, ← HRE.out]
  rw [if_neg (by omega)]; rfl
 ·rw [decide_eq_false h0] at HL
  have H0 := Lib.hid h0
  clear h0
  go_wp2_with fail
  refine (Add_any (I lo) (I 1) w2 (by omega) (by show 1 ≤ _; omega) (HT.out.below B2)).mono ?_
  rintro e w3 ⟨rfl, B3⟩
  have B3 := B2.trans (B3.mono B2.size)
  rw [vl_I, vl_I]
  clear B2
  go_wp2_with fail
  refine (Compare_any (I q.num) ⟨#[]⟩ w3 (by omega) (by show 0 ≤ _; omega)).mono ?_
  rintro e w4 ⟨rfl, B4⟩
  have B4 := B3.trans (B4.mono B3.size)
  rw [vl_I, show vl (⟨#[]⟩ : ByteArray) = 0 from by rw [zero_eq, vl_I]]
  clear B3
  go_wp2_with fail
  refine (Add_any (I re) (I re) w4 (by omega) (by omega) (HT.out.below B4)).mono ?_
  rintro e w5 ⟨rfl, B5⟩
  have B5 := B4.trans (B5.mono B4.size)
  rw [vl_I]
  clear B4
  have zz : (I (re + re)).size ≤ K + K + 10 := (by
   refine Nat.le_trans (I_size_le (k := (I re).size + 1) (two_lt _ ?_)) (by omega)
   have := vl_lt (I re)
   rw [vl_I] at this
   omega)
  go_wp2_with fail
  refine (Compare_any (I (re + re)) (I q.den) w5 (by omega) (by omega)).mono ?_
  rintro e w6 ⟨rfl, B6⟩
  have B6 := B5.trans (B6.mono B5.size)
  rw [vl_I, vl_I]
  clear B5
  rcases Int.lt_trichotomy (re + re) q.den with hc | hc | hc
  ·have HC := Lib.hid hc
   have h1 : decide (0 < cmpI (re + re) q.den) = false := decide_eq_false (by rw [cmpI_gt]; omega)
   have h2 : (cmpI (re + re) q.den == 0) = false := beq_eq_false_iff_ne.2 (by rw [Ne, cmpI_eq]; omega)
   clear hc
   go_wp2_with fail
   go_ret2
   refine ⟨?_, B6⟩
   have h0 := H0.out
   have hc := HC.out
   unfold rnd
   rw [← HLO.out, ← HRE.out]
   rw [if_neg (by omega)]; rfl
  ·have HC := Lib.hid hc
   have h1 : decide (0 < cmpI (re + re) q.den) = false := decide_eq_false (by rw [cmpI_gt]; omega)
   have h2 : (cmpI (re + re) q.den == 0) = true := beq_iff_eq.2 (cmpI_eq.2 hc)
   clear hc
   go_wp2_with fail
   refine (even_any (I lo) w6 (by omega) (HT.out.below B6)).mono ?_
   rintro e w7 ⟨rfl, B7⟩
   have B7 := B6.trans (B7.mono B6.size)
   rw [vl_I]
   by_cases he : lo % 2 = 0
   ·have he' : decide (lo % 2 = 0) = true := decide_eq_true he
    have HE := Lib.hid he
    clear he
    go_wp2_with fail
    go_ret2
    refine ⟨?_, B7⟩
    have h0 := H0.out
    have hc := HC.out
    unfold rnd
    rw [← HLO.out, ← HRE.out]
    rw [if_neg (by have := HE.out; omega)]; rfl
   ·have he' : decide (lo % 2 = 0) = false := decide_eq_false he
    have HE := Lib.hid he
    clear he
    go_wp2_with fail
    go_ret2
    refine ⟨?_, B7⟩
    have h0 := H0.out
    have hc := HC.out
    unfold rnd
    rw [← HLO.out, ← HRE.out]
    rw [if_pos (by have := HE.out; omega)]; rfl
  ·have HC := Lib.hid hc
   have h1 : decide (0 < cmpI (re + re) q.den) = true := decide_eq_true (by rw [cmpI_gt]; omega)
   clear hc
   go_wp2_with fail
   go_ret2
   refine ⟨?_, B6⟩
   have h0 := H0.out
   have hc := HC.out
   unfold rnd
   rw [← HLO.out, ← HRE.out]
   rw [if_pos (by omega)]; rfl
end Go.Proofs.YtdnmpgoigagjmaaGreatDoor
namespace Tr
def leapB (y : Int) : Bool := (y % 4 == 0 && y % 100 != 0) || y % 400 == 0
def lenB (lp : Bool) (m : Nat) : Int := if m = 2 then (if lp then 29 else 28) else if m = 4 ∨ m = 6 ∨ m = 9 ∨ m = 11 then 30 else 31
def cumB (lp : Bool) : Nat → Int
 | 0 => 0
 | k + 1 => cumB lp k + lenB lp (k + 1)
def ylen (lp : Bool) : Int := if lp then 366 else 365
def bg (y : Int) : Int := 365 * (y - 1900) + ((y - 1) / 4 - (y - 1) / 100 + (y - 1) / 400) - 460
theorem bg_succ (y : Int) : bg (y + 1) = bg y + ylen (leapB y) := by
 have h : leapB y = decide ((y % 4 = 0 ∧ y % 100 ≠ 0) ∨ y % 400 = 0) := by
  unfold leapB; rw [Bool.eq_iff_iff]; simp
 unfold bg ylen
 rw [h]
 by_cases hc : (y % 4 = 0 ∧ y % 100 ≠ 0) ∨ y % 400 = 0
 ·rw [decide_eq_true hc, if_pos rfl]; omega
 ·rw [decide_eq_false hc, if_neg (by simp)]; omega
theorem cum12 (lp : Bool) : cumB lp 12 = ylen lp := by cases lp <;> decide
theorem cum_mono (lp : Bool) {m k : Nat} (h : m ≤ k) : cumB lp m ≤ cumB lp k := by
 induction k with
 | zero => have : m = 0 := by omega
           subst this; exact Int.le_refl _
 | succ k ih =>
   rcases Nat.lt_or_ge k m with h1 | h1
   ·have : m = k + 1 := by omega
    subst this; exact Int.le_refl _
   ·have := ih h1
    have h2 : 0 ≤ lenB lp (k + 1) := by unfold lenB; split <;> (try split) <;> omega
    show _ ≤ cumB lp k + lenB lp (k + 1)
    omega
theorem lenB_pos (lp : Bool) (m : Nat) : 28 ≤ lenB lp m ∧ lenB lp m ≤ 31 := by unfold lenB; split <;> (try split) <;> omega
def VDate (y : Int) (m : Nat) (d : Int) : Prop := 1900 ≤ y ∧ y ≤ 2199 ∧ 1 ≤ m ∧ m ≤ 12 ∧ 1 ≤ d ∧ d ≤ lenB (leapB y) m
def dayOf (y : Int) (m : Nat) (d : Int) : Int := -25567 + bg y + cumB (leapB y) (m - 1) + d - 1
theorem in_year {y : Int} {m : Nat} {d : Int} (h : VDate y m d) : bg y ≤ dayOf y m d + 25567 ∧ dayOf y m d + 25567 < bg (y + 1) := by
 obtain ⟨_, _, h3, h4, h5, h6⟩ := h
 have e1 : 0 ≤ cumB (leapB y) (m - 1) := cum_mono (m := 0) _ (by omega)
 have e2 : cumB (leapB y) (m - 1) + lenB (leapB y) m ≤ cumB (leapB y) 12 := by
  have := cum_mono (leapB y) (m := m) (k := 12) h4
  obtain ⟨j, rfl⟩ : ∃ j, m = j + 1 := ⟨m - 1, by omega⟩
  exact this
 rw [bg_succ, ← cum12]
 unfold dayOf
 omega
theorem bg_mono {x y : Int} (h : x ≤ y) : bg x ≤ bg y := by unfold bg; omega
theorem date_unique {y y' : Int} {m m' : Nat} {d d' : Int} (h : VDate y m d) (h' : VDate y' m' d') (e : dayOf y m d = dayOf y' m' d') : y = y' ∧ m = m' ∧ d = d' := by
 have a := in_year h
 have b := in_year h'
 have hy : y = y' := by
  rcases Int.lt_trichotomy y y' with h1 | h1 | h1
  ·have := bg_mono (x := y + 1) (y := y') (by omega); omega
  ·exact h1
  ·have := bg_mono (x := y' + 1) (y := y) (by omega); omega
 subst hy
 obtain ⟨_, _, h3, h4, h5, h6⟩ := h
 obtain ⟨_, _, k3, k4, k5, k6⟩ := h'
 unfold dayOf at e
 have hm : m = m' := by
  have key : ∀ p q : Nat, 1 ≤ p → p < q → cumB (leapB y) (p - 1) + lenB (leapB y) p ≤ cumB (leapB y) (q - 1) := by
   intro p q hp hpq
   have := cum_mono (leapB y) (m := p) (k := q - 1) (by omega)
   obtain ⟨j, rfl⟩ : ∃ j, p = j + 1 := ⟨p - 1, by omega⟩
   exact this
  rcases Nat.lt_trichotomy m m' with h1 | h1 | h1
  ·have := key m m' h3 h1; omega
  ·exact h1
  ·have := key m' m k3 h1; omega
 subst hm
 exact ⟨rfl, rfl, by omega⟩
theorem dayOf_range {y : Int} {m : Nat} {d : Int} (h : VDate y m d) : -25567 ≤ dayOf y m d ∧ dayOf y m d ≤ 84005 := by
 have a := in_year h
 have b1 := bg_mono h.1
 have b2 := bg_mono (x := y + 1) (y := 2200) (by have := h.2.1; omega)
 have c1 : bg 1900 = 0 := by decide
 have c2 : bg 2200 = 109573 := by decide
 omega
end Tr
namespace Go.Proofs.YtdnmpgoigagjmaaGreatDoor
open Go.RowKit Tr Go.Shelf
end Go.Proofs.YtdnmpgoigagjmaaGreatDoor
namespace Go.Proofs.YtdnmpgoigagjmaaGreatDoor
open Go.RowKit Tr Go.Shelf
theorem cum_step (lp : Bool) {m : Nat} (h : 1 ≤ m) : cumB lp m = cumB lp (m - 1) + lenB lp m := by
 obtain ⟨j, rfl⟩ : ∃ j, m = j + 1 := ⟨m - 1, by omega⟩
 rfl
theorem cum_bd (lp : Bool) {m : Nat} (h : m ≤ 12) : 0 ≤ cumB lp m ∧ cumB lp m ≤ 366 := by
 have h1 := cum_mono lp (m := 0) (k := m) (by omega)
 have h2 := cum_mono lp (m := m) (k := 12) h
 rw [cum12] at h2
 have : ylen lp ≤ 366 := by unfold ylen; split <;> omega
 have h3 : cumB lp 0 = 0 := rfl
 omega
theorem bg_bd {y : Int} (h0 : 1900 ≤ y) (h1 : y ≤ 2300) : 0 ≤ bg y ∧ bg y ≤ 146500 := by unfold bg; omega
def okDay (d : Int) : Prop := -25567 ≤ d ∧ d ≤ 84005
instance (d : Int) : Decidable (okDay d) := by unfold okDay; infer_instance
def PartsPost (d : Int) (w : World) (e : Ending) (w' : World) : Prop := ∃ (y : Int) (m : Nat) (dd : Int), e = .returned (.tuple #[.int .i64 y, .int .i64 (m : Int), .int .i64 dd, .int .i64 0]) ∧ VDate y m dd ∧ dayOf y m dd = d ∧ Below w.heap.size w w'
end Go.Proofs.YtdnmpgoigagjmaaGreatDoor
namespace Go.Proofs.YtdnmpgoigagjmaaGreatDoor
open Go.RowKit Tr Go.Shelf
theorem Itoa_any (n : Int) (h0 : -9223372036854775808 ≤ n) (h1 : n ≤ 9223372036854775807) (w : World) (ht : Tabs w) :
 Calls Tryz.prog 81 #[.int .i64 n] w fun e w' => e = .returned (.string (bs (Lib.itoa n))) ∧ Below w.heap.size w w' := by
 refine (Tryz.strconv_Itoa n h0 h1 w ht.pow10).mono ?_
 rintro e w1 ⟨rfl, k, os, rfl⟩
 exact ⟨rfl, below_grow os k⟩
def two (n : Nat) : List UInt8 := List.replicate (2 - (Lib.itoa (n : Int)).length) 48 ++ Lib.itoa (n : Int)
theorem itoa_len {n : Nat} (h : n < 100) : 1 ≤ (Lib.itoa (n : Int)).length ∧ (Lib.itoa (n : Int)).length ≤ 2 := by
 have : ∀ n : Fin 100, 1 ≤ (Lib.itoa ((n : Nat) : Int)).length ∧ (Lib.itoa ((n : Nat) : Int)).length ≤ 2 := by
  intro n
  unfold Lib.itoa
  rw [if_neg (by omega)]
  rw [show (((n : Nat) : Int)).toNat = (n : Nat) from by omega]
  rcases Nat.eq_zero_or_pos (n : Nat) with h | h
  ·rw [h]; have := dec_zero; unfold dec at this; rw [this]; simp
  ·rw [Lib.decDigits_length]
   have := (digits_length_le_iff 2 (n : Nat)).2 (by have := n.2; omega)
   have e := dec_pos h
   unfold dec at e
   have e2 := congrArg List.length e
   rw [Lib.decDigits_length] at e2
   have : 1 ≤ (digits (n : Nat)).length := by
    rcases hd : digits (n : Nat) with _ | _
    ·have := dval_digits (n : Nat); rw [hd] at this; simp [dval] at this; omega
    ·simp
   omega
 exact this ⟨n, h⟩
def dtext (y : Int) (m d : Nat) : ByteArray := bs (Lib.itoa y ++ [45] ++ two m ++ [45] ++ two d)
def IsText (d : Int) (s : ByteArray) : Prop := ∃ (y : Int) (m : Nat) (dd : Nat), VDate y m dd ∧ dayOf y m dd = d ∧ s = dtext y m dd
noncomputable def ptext (d : Int) : ByteArray := by classical exact if h : ∃ s, IsText d s then h.choose else ⟨#[]⟩
theorem ptext_eq {y : Int} {m dd : Nat} (h : VDate y m dd) {d : Int} (hd : dayOf y m dd = d) : ptext d = dtext y m dd := by
 have hex : ∃ s, IsText d s := ⟨_, y, m, dd, h, hd, rfl⟩
 unfold ptext
 rw [dif_pos hex]
 obtain ⟨y', m', dd', h', e', es⟩ := hex.choose_spec
 obtain ⟨rfl, rfl, e3⟩ := date_unique h h' (hd.trans e'.symm)
 rw [es]
 have : dd = dd' := by omega
 subst this; rfl
end Go.Proofs.YtdnmpgoigagjmaaGreatDoor
namespace Go.Proofs.YtdnmpgoigagjmaaGreatDoor
theorem rnd_int (q : Rat) : 2 * (rnd q * q.den - q.num).natAbs ≤ q.den := by
 have hp : (0 : Int) < q.den := by have := q.den_pos; omega
 have h1 := Int.emod_nonneg q.num (b := (q.den : Int)) (by omega)
 have h2 := Int.emod_lt_of_pos q.num hp
 have h3 := Int.emod_add_mul_ediv q.num q.den
 have h4 : (q.num / q.den + 1) * (q.den : Int) = q.den * (q.num / q.den) + q.den := by
  rw [Int.add_mul, Int.one_mul, Int.mul_comm]
 have h5 : (q.num / q.den) * (q.den : Int) = q.den * (q.num / q.den) := Int.mul_comm _ _
 unfold rnd
 split
 ·rw [h4]; omega
 ·rw [h5]; omega
theorem rnd_rat (q : Rat) : (rnd q : Rat) * 2 ≤ q * 2 + 1 ∧ q * 2 ≤ (rnd q : Rat) * 2 + 1 := by
 have h := rnd_int q
 have hp : (0 : Rat) < (q.den : Rat) := by have := q.den_pos; exact_mod_cast this
 have hq : q * (q.den : Rat) = (q.num : Rat) := by
  have h0 : (q.den : Rat) ≠ 0 := fun e => by rw [e] at hp; exact absurd hp (by decide)
  have := Rat.num_divInt_den q
  rw [Rat.divInt_eq_div, Rat.div_def, show (((q.den : Nat) : Int) : Rat) = (q.den : Rat) from rfl] at this
  conv => lhs; lhs; rw [← this]
  rw [Rat.mul_assoc, Rat.inv_mul_cancel _ h0, Rat.mul_one]
 have a1 : 2 * (rnd q * (q.den : Int) - q.num) ≤ q.den := by omega
 have a2 : 0 ≤ 2 * (rnd q * (q.den : Int) - q.num) + (q.den : Int) := by omega
 have b1 : (2 : Rat) * ((rnd q : Rat) * (q.den : Rat) - (q.num : Rat)) ≤ (q.den : Rat) := by exact_mod_cast a1
 have b2 : 0 ≤ (2 : Rat) * ((rnd q : Rat) * (q.den : Rat) - (q.num : Rat)) + (q.den : Rat) := by exact_mod_cast a2
 rw [← hq] at b1 b2
 generalize (rnd q : Rat) = r at *
 generalize (q.den : Rat) = d at *
 constructor
 ·apply Rat.le_of_mul_le_mul_right (c := d) _ hp
  grind
 ·apply Rat.le_of_mul_le_mul_right (c := d) _ hp
  grind
def rsum : List Rat → Rat
 | [] => 0
 | q :: l => q + rsum l
def isum : List Int → Int
 | [] => 0
 | q :: l => q + isum l
theorem sums_rat (l : List Rat) : (isum (l.map rnd) : Rat) * 2 ≤ rsum l * 2 + (l.length : Rat) ∧ rsum l * 2 ≤ (isum (l.map rnd) : Rat) * 2 + (l.length : Rat) := by
 induction l with
 | nil => simp only [rsum, isum, List.map_nil, List.length_nil]; constructor <;> grind
 | cons q l ih =>
   have h := rnd_rat q
   have e : ((isum ((q :: l).map rnd) : Int) : Rat) = (rnd q : Rat) + (isum (l.map rnd) : Rat) := by
    simp only [List.map_cons, isum]; push_cast; rfl
   rw [e]
   simp only [rsum, List.length_cons]
   have e2 : ((l.length + 1 : Nat) : Rat) = (l.length : Rat) + 1 := by push_cast; rfl
   rw [e2]
   grind
theorem sums_close (l : List Rat) (h : l ≠ []) : (isum (l.map rnd) - rnd (rsum l)).natAbs < l.length := by
 match l, h with
 | [q], _ =>
   have e : rsum [q] = q := by simp only [rsum]; exact Rat.add_zero q
   rw [e]
   simp only [List.map_cons, List.map_nil, isum, List.length_cons, List.length_nil]
   omega
 | q :: p :: l, _ =>
   generalize hL : q :: p :: l = L
   have hlen : 2 ≤ L.length := by rw [← hL]; simp
   have h1 := sums_rat L
   have h2 := rnd_rat (rsum L)
   have k1 : ((isum (L.map rnd) : Int) : Rat) * 2 ≤ (rnd (rsum L) : Rat) * 2 + 1 + (L.length : Rat) := by grind
   have k2 : (rnd (rsum L) : Rat) * 2 ≤ ((isum (L.map rnd) : Int) : Rat) * 2 + 1 + (L.length : Rat) := by grind
   have m1 : isum (L.map rnd) * 2 ≤ rnd (rsum L) * 2 + 1 + (L.length : Int) := by exact_mod_cast k1
   have m2 : rnd (rsum L) * 2 ≤ isum (L.map rnd) * 2 + 1 + (L.length : Int) := by exact_mod_cast k2
   omega
end Go.Proofs.YtdnmpgoigagjmaaGreatDoor
namespace Go.Proofs.YtdnmpgoigagjmaaGreatDoor
open Go.RowKit Tr
theorem raw_facts (n d : ByteArray) (ha : n.size ≤ 16) (hb : d.size ≤ 16) : (rawN n d).size ≤ 1000000 ∧ (rawD d).size ≤ 1000000 ∧ (vl (rawN n d)).natAbs < 100000000000000000 ∧ (vl (rawD d)).natAbs < 100000000000000000 ∧ 0 < vl (rawD d) ∧ Rat.divInt (vl (rawN n d)) (vl (rawD d)) = fv n d := by
 have hn : (vl n).natAbs < 10 ^ 16 := Nat.lt_of_lt_of_le (vl_lt n) (pow_mono ha)
 have hd : (vl d).natAbs < 10 ^ 16 := Nat.lt_of_lt_of_le (vl_lt d) (pow_mono hb)
 unfold rawN rawD fv dd
 rcases Int.lt_trichotomy (vl d) 0 with h | h | h
 ·rw [if_pos h, if_neg (by omega), if_pos h, if_neg (by omega)]
  have z1 : (I (-vl n)).size ≤ 17 := I_size_le (by rw [Int.natAbs_neg]; exact hn)
  have z2 : (I (-vl d)).size ≤ 17 := I_size_le (by rw [Int.natAbs_neg]; exact hd)
  rw [vl_I, vl_I, Rat.neg_divInt_neg]
  exact ⟨by omega, by omega, by omega, by omega, by omega, rfl⟩
 ·rw [if_neg (by omega), if_pos h, if_pos h]
  have : vl one1 = 1 := by rw [one1_eq, vl_I]
  have z : one1.size = 1 := rfl
  rw [this]
  exact ⟨by omega, by omega, by omega, by omega, by omega, rfl⟩
 ·rw [if_neg (by omega), if_neg (by omega), if_neg (by omega), if_neg (by omega)]
  exact ⟨by omega, by omega, by omega, by omega, by omega, rfl⟩
set_option maxHeartbeats 2000000 in
theorem rfCanonical_any (n d : ByteArray) (ha : n.size ≤ 16) (hb : d.size ≤ 16) (w : World) :
 Calls Tryz.prog 233 #[.agg #[.string n, .string d]] w fun e w' => e = .returned (fenc (fv n d)) ∧ Below w.heap.size w w' := by
 obtain ⟨r1, r2, r3, r4, r5, r6⟩ := raw_facts n d ha hb
 have HR := fun W => rreduced_short (rawN n d) (rawD d) r1 r2 r3 r4 r5 W
 rw [r6] at HR
 have HR := Lib.hid HR
 have HW := Lib.hid (fun W => rRaw_any n d (by omega) (by omega) W)
 clear r1 r2 r3 r4 r5 r6 ha hb
 obtain ⟨W0, hW0, hb0, hs0, k0, k1⟩ := box2 w (.cells #[.string n, .string d] 55) (.cells #[.string ⟨#[]⟩, .string ⟨#[]⟩] 55)
 have b0 := Lib.cell_of_heap k0 0
 have b1 := Lib.cell_of_heap k0 1
 simp at b0 b1
 have HB := Lib.hid hb0
 have HK := Lib.hid k1
 clear hb0 k0 k1 hs0
 go_enter Tryz.func233, Tryz.ntmps233
 go_wp2_with fail
 try rw [← hW0]
 refine (HW.out _).mono ?_
 rintro e w1 ⟨rfl, c1⟩
 have HC1 := Lib.hid c1
 clear c1
 go_wp2_with fail
 refine (HR.out _).mono ?_
 rintro e w2 ⟨rfl, c2⟩
 have c12 := HC1.out.trans (c2.mono HC1.out.size)
 have k2 := (c12.block _ (Array.getElem?_eq_some_iff.1 HK.out).1).trans HK.out
 have a0 := Lib.cell_of_heap k2 0
 have a1 := Lib.cell_of_heap k2 1
 simp at a0 a1
 have f0 := Lib.frozen_of_heap k2 0
 have f1 := Lib.frozen_of_heap k2 1
 have HB2 := Lib.hid (HB.out.trans (c12.mono HB.out.size))
 have K2 := Lib.hid k2
 clear c2 c12 k2 HB HC1 HK HR HW
 obtain ⟨q, hq⟩ : ∃ q, fv n d = q := ⟨_, rfl⟩
 rw [hq]
 have HQ := Lib.hid hq
 clear hq
 unfold fenc
 go_wp2_with fail
 have k2 := set2 K2.out (.string (I q.num)) (.string (dn q))
 have m0 := Lib.cell_of_heap k2 0
 have m1 := Lib.cell_of_heap k2 1
 simp at m0 m1
 refine bodyPost_ret (v := .agg #[.string (I q.num), .string (dn q)]) (by simp [results, Tryz.results233, go_sem, m0, m1]) rfl ?_
 exact ⟨by rw [HQ.out]; rfl, (HB2.out.setCell (p := ⟨w.heap.size + 1, 0, none⟩) (by simp) _).setCell (p := ⟨w.heap.size + 1, 1, none⟩) (by simp) _⟩
end Go.Proofs.YtdnmpgoigagjmaaGreatDoor
namespace Go.Proofs.YtdnmpgoigagjmaaGreatDoor
open Go.RowKit Tr Go.Shelf
theorem raw_small (n d : ByteArray) (ha : n.size ≤ 100) (hb : d.size ≤ 100) : (rawN n d).size ≤ 200 ∧ (rawD d).size ≤ 200 := by
 have hn : (vl n).natAbs < 10 ^ 100 := Nat.lt_of_lt_of_le (vl_lt n) (pow_mono ha)
 have hd : (vl d).natAbs < 10 ^ 100 := Nat.lt_of_lt_of_le (vl_lt d) (pow_mono hb)
 have z1 : (I (-vl n)).size ≤ 101 := I_size_le (by rw [Int.natAbs_neg]; exact hn)
 have z2 : (I (-vl d)).size ≤ 101 := I_size_le (by rw [Int.natAbs_neg]; exact hd)
 have z : one1.size = 1 := rfl
 unfold rawN rawD
 constructor
 ·split <;> omega
 ·split
  ·omega
  ·split <;> omega
set_option maxHeartbeats 2000000 in
theorem rfCompare_any (n d n' d' : ByteArray) (ha : n.size ≤ 100) (hb : d.size ≤ 100) (ha' : n'.size ≤ 100) (hb' : d'.size ≤ 100) (w : World) :
 Calls Tryz.prog 270 #[.agg #[.string n, .string d], .agg #[.string n', .string d']] w fun e w' => e = .returned (.int .i64 (cmpI (vl (rawN n d) * vl (rawD d')) (vl (rawN n' d') * vl (rawD d)))) ∧ Below w.heap.size w w' := by
 have r := raw_small n d ha hb
 have r' := raw_small n' d' ha' hb'
 have H1 := Lib.hid (fun W => rRaw_any n d (by omega) (by omega) W)
 have H2 := Lib.hid (fun W => rRaw_any n' d' (by omega) (by omega) W)
 have H3 := Lib.hid (fun W => rMul_any (rawN n d) (rawD d') (by omega) (by omega) W)
 have H4 := Lib.hid (fun W => rMul_any (rawN n' d') (rawD d) (by omega) (by omega) W)
 have hs1 : (I (vl (rawN n d) * vl (rawD d'))).size ≤ 1000000 := by
  have := I_size_le (mul_lt_pow (vl_lt (rawN n d)) (vl_lt (rawD d'))); omega
 have hs2 : (I (vl (rawN n' d') * vl (rawD d))).size ≤ 1000000 := by
  have := I_size_le (mul_lt_pow (vl_lt (rawN n' d')) (vl_lt (rawD d))); omega
 have H5 := fun W => rCompare_any _ _ hs1 hs2 W
 rw [vl_I, vl_I] at H5
 have H5 := Lib.hid H5
 clear hs1 hs2 r r' ha hb ha' hb'
 obtain ⟨W0, hW0, hb0, hs0, k0, k1⟩ := box2 w (.cells #[.string n, .string d] 55) (.cells #[.string n', .string d'] 55)
 have a0 := Lib.cell_of_heap k0 0
 have a1 := Lib.cell_of_heap k0 1
 have b0 := Lib.cell_of_heap k1 0
 have b1 := Lib.cell_of_heap k1 1
 simp at a0 a1 b0 b1
 have HB := Lib.hid hb0
 have HZ := Lib.hid hs0
 clear hb0 k0 k1 hs0
 go_enter Tryz.func270, Tryz.ntmps270
 go_wp2_with fail
 try rw [← hW0]
 refine (H1.out _).mono ?_
 rintro e w1 ⟨rfl, c1⟩
 have e0 := (c1.cell (cell_lt b0)).trans b0
 have e1 := (c1.cell (cell_lt b1)).trans b1
 have C1 := Lib.hid (HB.out.trans (c1.mono HB.out.size))
 clear c1 a0 a1 b0 b1 HB H1 hW0
 go_wp2_with fail
 refine (H2.out _).mono ?_
 rintro e w2 ⟨rfl, c2⟩
 have C2 := Lib.hid (C1.out.trans (c2.mono C1.out.size))
 clear c2 e0 e1 C1 H2
 go_wp2_with fail
 refine (H3.out _).mono ?_
 rintro e w3 ⟨rfl, c3⟩
 have C3 := Lib.hid (C2.out.trans (c3.mono C2.out.size))
 clear c3 C2 H3
 go_wp2_with fail
 refine (H4.out _).mono ?_
 rintro e w4 ⟨rfl, c4⟩
 have C4 := Lib.hid (C3.out.trans (c4.mono C3.out.size))
 clear c4 C3 H4
 go_wp2_with fail
 refine (H5.out _).mono ?_
 rintro e w5 ⟨rfl, rfl⟩
 go_wp2_with fail
 go_ret
 exact ⟨rfl, C4.out⟩
theorem cmpI_raw {n d : ByteArray} (hc : CanQ n d) : cmpI (vl (rawN n d) * vl (rawD ⟨#[]⟩)) (vl (rawN ⟨#[]⟩ ⟨#[]⟩) * vl (rawD d)) = cmpI (vl n) 0 := by
 have e0 : vl (⟨#[]⟩ : ByteArray) = 0 := by rw [zero_eq, vl_I]
 have e1 : vl one1 = 1 := by rw [one1_eq, vl_I]
 have hd : ¬ vl d < 0 := by
  rw [hc.2]
  unfold dn
  split
  ·rw [e0]; omega
  ·rw [vl_I]; omega
 have r1 : rawN n d = n := by unfold rawN; rw [if_neg hd]
 have r2 : rawD ⟨#[]⟩ = one1 := by unfold rawD; rw [if_pos e0]
 have r3 : rawN ⟨#[]⟩ ⟨#[]⟩ = ⟨#[]⟩ := by unfold rawN; rw [if_neg (by omega)]
 rw [r1, r2, r3, e0, e1, Int.mul_one, Int.zero_mul]
end Go.Proofs.YtdnmpgoigagjmaaGreatDoor
