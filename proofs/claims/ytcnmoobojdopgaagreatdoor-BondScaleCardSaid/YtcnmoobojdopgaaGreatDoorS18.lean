/-
  Fractions: Of, Parts, Check.
  Days and dates, plainly.
  The walks of the package date.
  The walks of date.Of, date.Parts.
  Days shifted by months; a time divided into periods, plainly.
  The walks of date.AddMonths, schedule.check, schedule.valid of two days, schedule.inner.
  Parts of years by day count conventions, plainly.
  The walks of trancheref02.Canonical, Check (short numbers). (Printed by gen_ref8.py.)
  The walks of trancheref02.Compare, Sign (short numbers).
  The walk of date.Print.
  Values of payments, plainly.
-/
import Derived.Test.YtcnmoobojdopgaaGreatDoorS17
import Derived.Test.YtcnmoobojdopgaaGreatDoorS15
import Derived.Test.YtcnmoobojdopgaaGreatDoorS14
set_option linter.unusedVariables false
set_option linter.unusedSimpArgs false
set_option maxHeartbeats 16000000
set_option maxRecDepth 100000
namespace Go.Proofs.YtcnmoobojdopgaaGreatDoor
open Go.RowKit Tr Go.Shelf
theorem divInt_one' (a : Int) : Rat.divInt a 1 = (a : Rat) := Rat.num_divInt_den (a : Rat)
theorem fOf_any (a : ByteArray) (w : World) (s1 : a.size ≤ 3000000) (ht : Tabs w) :
 Calls Tryz.prog 29 #[.string a] w fun e w' => e = .returned (fenc (vl a : Rat)) ∧ Below w.heap.size w w' := by
 have HB := Lib.hid ((Below.refl _ w).alloc (Nat.le_refl _) (Obj.cells #[.string ⟨#[]⟩, .string ⟨#[]⟩] 25))
 have HR := Lib.hid (made_any a one1 _ s1 (by show 1 ≤ _; omega) (by rw [one1_eq, vl_I]; omega) (ht.below HB.out))
 rw [one1_eq, vl_I, divInt_one', ← one1_eq] at HR
 obtain ⟨W0, hW0⟩ : ∃ W0, w.alloc (Obj.cells #[.string ⟨#[]⟩, .string ⟨#[]⟩] 25) = W0 := ⟨_, rfl⟩
 have hk : W0.heap[w.heap.size]? = some (Obj.cells #[.string ⟨#[]⟩, .string ⟨#[]⟩] 25) := by rw [← hW0]; exact heap_alloc_new w _
 have hs : W0.heap.size = w.heap.size + 1 := by rw [← hW0]; simp
 rw [hW0] at HB HR
 generalize hq : (vl a : Rat) = q at HR ⊢
 clear ht hq
 unfold one1 at HR
 go_enter Tryz.func29, Tryz.ntmps29
 go_wp2_with fail
 refine HR.out.mono ?_
 rintro e w1 ⟨rfl, B1⟩
 unfold fenc
 clear HR
 have k1 := (B1.block w.heap.size (by omega)).trans hk
 have a0 := Lib.cell_of_heap k1 0
 have a1 := Lib.cell_of_heap k1 1
 simp at a0 a1
 have f0 := Lib.frozen_of_heap k1 0
 have f1 := Lib.frozen_of_heap k1 1
 have HB1 := Lib.hid (HB.out.trans (B1.mono HB.out.size))
 have K1 := Lib.hid k1
 clear B1 HB hk hs k1
 go_wp2_with fail
 have k2 := set2 K1.out (.string (I q.num)) (.string (dn q))
 have m0 := Lib.cell_of_heap k2 0
 have m1 := Lib.cell_of_heap k2 1
 simp at m0 m1
 refine bodyPost_ret (v := .agg #[.string (I q.num), .string (dn q)]) (by simp [results, Tryz.results29, go_sem, m0, m1]) rfl ?_
 exact ⟨rfl, (HB1.out.setCell (p := ⟨w.heap.size, 0, none⟩) (Nat.le_refl _) _).setCell (p := ⟨w.heap.size, 1, none⟩) (Nat.le_refl _) _⟩
def CanQ (n d : ByteArray) : Prop := n = I (fv n d).num ∧ d = dn (fv n d)
theorem fCheck_yes (n d : ByteArray) (w : World) (s1 : n.size ≤ 2000000) (s2 : d.size ≤ 2000000) (hc : CanQ n d) (ht : Tabs w) :
 Calls Tryz.prog 8 #[.agg #[.string n, .string d]] w fun e w' => e = .returned (.int .i64 0) ∧ Below w.heap.size w w' := by
 have HB := Lib.hid ((Below.refl _ w).alloc (Nat.le_refl _) (Obj.cells #[.string n, .string d] 25))
 obtain ⟨W0, hW0⟩ : ∃ W0, w.alloc (Obj.cells #[.string n, .string d] 25) = W0 := ⟨_, rfl⟩
 have hk : W0.heap[w.heap.size]? = some (Obj.cells #[.string n, .string d] 25) := by rw [← hW0]; exact heap_alloc_new w _
 rw [hW0] at HB
 have b0 := Lib.cell_of_heap hk 0
 have b1 := Lib.cell_of_heap hk 1
 simp at b0 b1
 have HT := Lib.hid ht
 have HC := Lib.hid hc
 have hdd := dd_size d
 clear ht hk hc
 go_enter Tryz.func8, Tryz.ntmps8
 go_wp2_with fail
 go_region_held3 (fun W => W.cell? ⟨w.heap.size, 0, none⟩ = some (.string n) ∧ W.cell? ⟨w.heap.size, 1, none⟩ = some (.string d))
  (refine ⟨?_, ?_⟩ <;> first | assumption | (go_simp; done))
  (first
    | (go_at_call 41; refine (parts_any n d W0.drew (by omega)).mono ?_; rintro e w1 ⟨rfl, hb1⟩; have c0 := keepc b0 hb1; have c1 := keepc b1 hb1; have HB1 := Lib.hid (HB.out.drew.trans (hb1.mono HB.out.size)); clear hb1)
    | (go_at_call 40; refine (made_any n (dd d) w1 (by omega) (by omega) (dd_ne d) (HT.out.below HB1.out)).mono ?_; rintro e w2 ⟨rfl, hb2⟩; rw [show Rat.divInt (vl n) (vl (dd d)) = fv n d from rfl]; unfold fenc; rw [← HC.out.1, ← HC.out.2]; have d0 := keepc c0 hb2; have d1 := keepc c1 hb2; have HB2 := Lib.hid (HB1.out.trans (hb2.mono HB1.out.size)); clear hb2))
 go_wp2_with fail
 go_ret
 exact ⟨rfl, HB2.out⟩
theorem fCheck_no (n d : ByteArray) (w : World) (s1 : n.size ≤ 2000000) (s2 : d.size ≤ 2000000) (hc : ¬ CanQ n d) (ht : Tabs w) :
 Calls Tryz.prog 8 #[.agg #[.string n, .string d]] w fun e w' => e = .returned (.int .i64 1) ∧ Below w.heap.size w w' := by
 have HB := Lib.hid ((Below.refl _ w).alloc (Nat.le_refl _) (Obj.cells #[.string n, .string d] 25))
 obtain ⟨W0, hW0⟩ : ∃ W0, w.alloc (Obj.cells #[.string n, .string d] 25) = W0 := ⟨_, rfl⟩
 have hk : W0.heap[w.heap.size]? = some (Obj.cells #[.string n, .string d] 25) := by rw [← hW0]; exact heap_alloc_new w _
 rw [hW0] at HB
 have b0 := Lib.cell_of_heap hk 0
 have b1 := Lib.cell_of_heap hk 1
 simp at b0 b1
 have HT := Lib.hid ht
 have HC : Hid (¬ (n = I (fv n d).num ∧ d = dn (fv n d))) := hc
 have hdd := dd_size d
 clear ht hk hc
 by_cases hn : n = I (fv n d).num
 ·have hd' : (d.toList == (dn (fv n d)).toList) = false := neq_toList (fun e => HC.out ⟨hn, e⟩)
  have hn' : (n.toList == (I (fv n d).num).toList) = true := by rw [← hn]; simp
  clear hn HC
  go_enter Tryz.func8, Tryz.ntmps8
  go_wp2_with fail
  go_region_held3 (fun W => W.cell? ⟨w.heap.size, 0, none⟩ = some (.string n) ∧ W.cell? ⟨w.heap.size, 1, none⟩ = some (.string d))
   (refine ⟨?_, ?_⟩ <;> first | assumption | (go_simp; done))
   (first
     | (go_at_call 41; refine (parts_any n d W0.drew (by omega)).mono ?_; rintro e w1 ⟨rfl, hb1⟩; have c0 := keepc b0 hb1; have c1 := keepc b1 hb1; have HB1 := Lib.hid (HB.out.drew.trans (hb1.mono HB.out.size)); clear hb1)
     | (go_at_call 40; refine (made_any n (dd d) w1 (by omega) (by omega) (dd_ne d) (HT.out.below HB1.out)).mono ?_; rintro e w2 ⟨rfl, hb2⟩; rw [show Rat.divInt (vl n) (vl (dd d)) = fv n d from rfl]; unfold fenc; have d0 := keepc c0 hb2; have d1 := keepc c1 hb2; have HB2 := Lib.hid (HB1.out.trans (hb2.mono HB1.out.size)); clear hb2))
  go_wp2_with fail
  go_ret
  exact ⟨rfl, HB2.out⟩
 ·have hn' : (n.toList == (I (fv n d).num).toList) = false := neq_toList hn
  clear hn HC
  by_cases hd : d = dn (fv n d)
  ·have hd' : (d.toList == (dn (fv n d)).toList) = true := by rw [← hd]; simp
   clear hd
   go_enter Tryz.func8, Tryz.ntmps8
   go_wp2_with fail
   go_region_held3 (fun W => W.cell? ⟨w.heap.size, 0, none⟩ = some (.string n) ∧ W.cell? ⟨w.heap.size, 1, none⟩ = some (.string d))
    (refine ⟨?_, ?_⟩ <;> first | assumption | (go_simp; done))
    (first
      | (go_at_call 41; refine (parts_any n d W0.drew (by omega)).mono ?_; rintro e w1 ⟨rfl, hb1⟩; have c0 := keepc b0 hb1; have c1 := keepc b1 hb1; have HB1 := Lib.hid (HB.out.drew.trans (hb1.mono HB.out.size)); clear hb1)
      | (go_at_call 40; refine (made_any n (dd d) w1 (by omega) (by omega) (dd_ne d) (HT.out.below HB1.out)).mono ?_; rintro e w2 ⟨rfl, hb2⟩; rw [show Rat.divInt (vl n) (vl (dd d)) = fv n d from rfl]; unfold fenc; have d0 := keepc c0 hb2; have d1 := keepc c1 hb2; have HB2 := Lib.hid (HB1.out.trans (hb2.mono HB1.out.size)); clear hb2))
   go_wp2_with fail
   go_ret
   exact ⟨rfl, HB2.out⟩
  ·have hd' : (d.toList == (dn (fv n d)).toList) = false := neq_toList hd
   clear hd
   go_enter Tryz.func8, Tryz.ntmps8
   go_wp2_with fail
   go_region_held3 (fun W => W.cell? ⟨w.heap.size, 0, none⟩ = some (.string n) ∧ W.cell? ⟨w.heap.size, 1, none⟩ = some (.string d))
    (refine ⟨?_, ?_⟩ <;> first | assumption | (go_simp; done))
    (first
      | (go_at_call 41; refine (parts_any n d W0.drew (by omega)).mono ?_; rintro e w1 ⟨rfl, hb1⟩; have c0 := keepc b0 hb1; have c1 := keepc b1 hb1; have HB1 := Lib.hid (HB.out.drew.trans (hb1.mono HB.out.size)); clear hb1)
      | (go_at_call 40; refine (made_any n (dd d) w1 (by omega) (by omega) (dd_ne d) (HT.out.below HB1.out)).mono ?_; rintro e w2 ⟨rfl, hb2⟩; rw [show Rat.divInt (vl n) (vl (dd d)) = fv n d from rfl]; unfold fenc; have d0 := keepc c0 hb2; have d1 := keepc c1 hb2; have HB2 := Lib.hid (HB1.out.trans (hb2.mono HB1.out.size)); clear hb2))
   go_wp2_with fail
   go_ret
   exact ⟨rfl, HB2.out⟩
end Go.Proofs.YtcnmoobojdopgaaGreatDoor
namespace Tr
def leapB (y : Int) : Bool := (y % 4 == 0 && y % 100 != 0) || y % 400 == 0
def lenB (lp : Bool) (m : Nat) : Int := if m = 2 then (if lp then 29 else 28) else if m = 4 ∨ m = 6 ∨ m = 9 ∨ m = 11 then 30 else 31
def cumB (lp : Bool) : Nat → Int
 | 0 => 0
 | k + 1 => cumB lp k + lenB lp (k + 1)
def ylen (lp : Bool) : Int := if lp then 366 else 365
def bg (y : Int) : Int := 365 * (y - 1900) + ((y - 1) / 4 - (y - 1) / 100 + (y - 1) / 400) - 460
theorem bg_succ (y : Int) : bg (y + 1) = bg y + ylen (leapB y) := by
 have h : leapB y = decide ((y % 4 = 0 ∧ y % 100 ≠ 0) ∨ y % 400 = 0) := by
  unfold leapB; rw [Bool.eq_iff_iff]; simp
 unfold bg ylen
 rw [h]
 by_cases hc : (y % 4 = 0 ∧ y % 100 ≠ 0) ∨ y % 400 = 0
 ·rw [decide_eq_true hc, if_pos rfl]; omega
 ·rw [decide_eq_false hc, if_neg (by simp)]; omega
theorem cum12 (lp : Bool) : cumB lp 12 = ylen lp := by cases lp <;> decide
theorem cum_mono (lp : Bool) {m k : Nat} (h : m ≤ k) : cumB lp m ≤ cumB lp k := by
 induction k with
 | zero => have : m = 0 := by omega
           subst this; exact Int.le_refl _
 | succ k ih =>
   rcases Nat.lt_or_ge k m with h1 | h1
   ·have : m = k + 1 := by omega
    subst this; exact Int.le_refl _
   ·have := ih h1
    have h2 : 0 ≤ lenB lp (k + 1) := by unfold lenB; split <;> (try split) <;> omega
    show _ ≤ cumB lp k + lenB lp (k + 1)
    omega
theorem lenB_pos (lp : Bool) (m : Nat) : 28 ≤ lenB lp m ∧ lenB lp m ≤ 31 := by unfold lenB; split <;> (try split) <;> omega
def VDate (y : Int) (m : Nat) (d : Int) : Prop := 1900 ≤ y ∧ y ≤ 2199 ∧ 1 ≤ m ∧ m ≤ 12 ∧ 1 ≤ d ∧ d ≤ lenB (leapB y) m
def dayOf (y : Int) (m : Nat) (d : Int) : Int := -25567 + bg y + cumB (leapB y) (m - 1) + d - 1
theorem in_year {y : Int} {m : Nat} {d : Int} (h : VDate y m d) : bg y ≤ dayOf y m d + 25567 ∧ dayOf y m d + 25567 < bg (y + 1) := by
 obtain ⟨_, _, h3, h4, h5, h6⟩ := h
 have e1 : 0 ≤ cumB (leapB y) (m - 1) := cum_mono (m := 0) _ (by omega)
 have e2 : cumB (leapB y) (m - 1) + lenB (leapB y) m ≤ cumB (leapB y) 12 := by
  have := cum_mono (leapB y) (m := m) (k := 12) h4
  obtain ⟨j, rfl⟩ : ∃ j, m = j + 1 := ⟨m - 1, by omega⟩
  exact this
 rw [bg_succ, ← cum12]
 unfold dayOf
 omega
theorem bg_mono {x y : Int} (h : x ≤ y) : bg x ≤ bg y := by unfold bg; omega
theorem date_unique {y y' : Int} {m m' : Nat} {d d' : Int} (h : VDate y m d) (h' : VDate y' m' d') (e : dayOf y m d = dayOf y' m' d') : y = y' ∧ m = m' ∧ d = d' := by
 have a := in_year h
 have b := in_year h'
 have hy : y = y' := by
  rcases Int.lt_trichotomy y y' with h1 | h1 | h1
  ·have := bg_mono (x := y + 1) (y := y') (by omega); omega
  ·exact h1
  ·have := bg_mono (x := y' + 1) (y := y) (by omega); omega
 subst hy
 obtain ⟨_, _, h3, h4, h5, h6⟩ := h
 obtain ⟨_, _, k3, k4, k5, k6⟩ := h'
 unfold dayOf at e
 have hm : m = m' := by
  have key : ∀ p q : Nat, 1 ≤ p → p < q → cumB (leapB y) (p - 1) + lenB (leapB y) p ≤ cumB (leapB y) (q - 1) := by
   intro p q hp hpq
   have := cum_mono (leapB y) (m := p) (k := q - 1) (by omega)
   obtain ⟨j, rfl⟩ : ∃ j, p = j + 1 := ⟨p - 1, by omega⟩
   exact this
  rcases Nat.lt_trichotomy m m' with h1 | h1 | h1
  ·have := key m m' h3 h1; omega
  ·exact h1
  ·have := key m' m k3 h1; omega
 subst hm
 exact ⟨rfl, rfl, by omega⟩
theorem dayOf_range {y : Int} {m : Nat} {d : Int} (h : VDate y m d) : -25567 ≤ dayOf y m d ∧ dayOf y m d ≤ 84005 := by
 have a := in_year h
 have b1 := bg_mono h.1
 have b2 := bg_mono (x := y + 1) (y := 2200) (by have := h.2.1; omega)
 have c1 : bg 1900 = 0 := by decide
 have c2 : bg 2200 = 109573 := by decide
 omega
end Tr
namespace Go.Proofs.YtcnmoobojdopgaaGreatDoor
open Go.RowKit Tr Go.Shelf
theorem Leap_any (y : Int) (h0 : 0 ≤ y) (h1 : y ≤ 100000) (w : World) :
 Calls Tryz.prog 225 #[.int .i64 y] w fun e w' => e = .returned (.bool (leapB y)) ∧ w' = w := by
 have e4 : y.tmod 4 = y % 4 := Int.tmod_eq_emod_of_nonneg h0
 have e100 : y.tmod 100 = y % 100 := Int.tmod_eq_emod_of_nonneg h0
 have e400 : y.tmod 400 = y % 400 := Int.tmod_eq_emod_of_nonneg h0
 go_enter Tryz.func225, Tryz.ntmps225
 go_wp2_with fail
 all_goals (go_ret; refine ⟨?_, rfl⟩; simp [leapB, *])
theorem begin_any (y : Int) (h0 : 1900 ≤ y) (h1 : y ≤ 2300) (w : World) :
 Calls Tryz.prog 166 #[.int .i64 y] w fun e w' => e = .returned (.int .i64 (bg y)) ∧ w' = w := by
 have e4 : (y - 1).tdiv 4 = (y - 1) / 4 := Int.tdiv_eq_ediv_of_nonneg (by omega)
 have e100 : (y - 1).tdiv 100 = (y - 1) / 100 := Int.tdiv_eq_ediv_of_nonneg (by omega)
 have e400 : (y - 1).tdiv 400 = (y - 1) / 400 := Int.tdiv_eq_ediv_of_nonneg (by omega)
 go_enter Tryz.func166, Tryz.ntmps166
 go_wp2_with fail
 go_ret
 exact ⟨rfl, rfl⟩
theorem length_any (y : Int) (m : Nat) (h0 : 0 ≤ y) (h1 : y ≤ 100000) (m0 : 1 ≤ m) (m1 : m ≤ 12) (w : World) :
 Calls Tryz.prog 165 #[.int .i64 y, .int .i64 (m : Int)] w fun e w' => e = .returned (.int .i64 (lenB (leapB y) m)) ∧ Below w.heap.size w w' := by
 have HL := Lib.hid (fun W => Leap_any y h0 h1 W)
 obtain ⟨W0, hW0⟩ : ∃ W0, w.alloc (.cells #[.int .i64 31, .int .i64 28, .int .i64 31, .int .i64 30, .int .i64 31, .int .i64 30, .int .i64 31, .int .i64 31, .int .i64 30, .int .i64 31, .int .i64 30, .int .i64 31] 235) = W0 := ⟨_, rfl⟩
 have hk : W0.heap[w.heap.size]? = some (.cells #[.int .i64 31, .int .i64 28, .int .i64 31, .int .i64 30, .int .i64 31, .int .i64 30, .int .i64 31, .int .i64 31, .int .i64 30, .int .i64 31, .int .i64 30, .int .i64 31] 235) := by rw [← hW0]; exact heap_alloc_new w _
 have HB : Hid (Below w.heap.size w W0) := by rw [← hW0]; exact (Below.refl _ w).alloc (Nat.le_refl _) _
 have c0 := Lib.cell_of_heap hk 0
 have c1 := Lib.cell_of_heap hk 1
 have c2 := Lib.cell_of_heap hk 2
 have c3 := Lib.cell_of_heap hk 3
 have c4 := Lib.cell_of_heap hk 4
 have c5 := Lib.cell_of_heap hk 5
 have c6 := Lib.cell_of_heap hk 6
 have c7 := Lib.cell_of_heap hk 7
 have c8 := Lib.cell_of_heap hk 8
 have c9 := Lib.cell_of_heap hk 9
 have c10 := Lib.cell_of_heap hk 10
 have c11 := Lib.cell_of_heap hk 11
 simp at c0 c1 c2 c3 c4 c5 c6 c7 c8 c9 c10 c11
 clear hk
 by_cases h2 : m = 2
 ·subst h2
  rw [show ((2 : Nat) : Int) = 2 from rfl]
  go_enter Tryz.func165, Tryz.ntmps165
  go_wp2_with fail
  refine (HL.out W0).mono ?_
  rintro e w1 ⟨rfl, rfl⟩
  cases hl : leapB y
  all_goals (go_wp2_with fail; go_ret; exact ⟨by rw [hl]; rfl, HB.out⟩)
 ·obtain rfl | rfl | rfl | rfl | rfl | rfl | rfl | rfl | rfl | rfl | rfl : m = 1 ∨ m = 3 ∨ m = 4 ∨ m = 5 ∨ m = 6 ∨ m = 7 ∨ m = 8 ∨ m = 9 ∨ m = 10 ∨ m = 11 ∨ m = 12 := by omega
  ·rw [show ((1 : Nat) : Int) = 1 from rfl]
   go_enter Tryz.func165, Tryz.ntmps165
   go_wp2_with fail
   go_ret
   exact ⟨by cases leapB y <;> rfl, HB.out⟩
  ·rw [show ((3 : Nat) : Int) = 3 from rfl]
   go_enter Tryz.func165, Tryz.ntmps165
   go_wp2_with fail
   go_ret
   exact ⟨by cases leapB y <;> rfl, HB.out⟩
  ·rw [show ((4 : Nat) : Int) = 4 from rfl]
   go_enter Tryz.func165, Tryz.ntmps165
   go_wp2_with fail
   go_ret
   exact ⟨by cases leapB y <;> rfl, HB.out⟩
  ·rw [show ((5 : Nat) : Int) = 5 from rfl]
   go_enter Tryz.func165, Tryz.ntmps165
   go_wp2_with fail
   go_ret
   exact ⟨by cases leapB y <;> rfl, HB.out⟩
  ·rw [show ((6 : Nat) : Int) = 6 from rfl]
   go_enter Tryz.func165, Tryz.ntmps165
   go_wp2_with fail
   go_ret
   exact ⟨by cases leapB y <;> rfl, HB.out⟩
  ·rw [show ((7 : Nat) : Int) = 7 from rfl]
   go_enter Tryz.func165, Tryz.ntmps165
   go_wp2_with fail
   go_ret
   exact ⟨by cases leapB y <;> rfl, HB.out⟩
  ·rw [show ((8 : Nat) : Int) = 8 from rfl]
   go_enter Tryz.func165, Tryz.ntmps165
   go_wp2_with fail
   go_ret
   exact ⟨by cases leapB y <;> rfl, HB.out⟩
  ·rw [show ((9 : Nat) : Int) = 9 from rfl]
   go_enter Tryz.func165, Tryz.ntmps165
   go_wp2_with fail
   go_ret
   exact ⟨by cases leapB y <;> rfl, HB.out⟩
  ·rw [show ((10 : Nat) : Int) = 10 from rfl]
   go_enter Tryz.func165, Tryz.ntmps165
   go_wp2_with fail
   go_ret
   exact ⟨by cases leapB y <;> rfl, HB.out⟩
  ·rw [show ((11 : Nat) : Int) = 11 from rfl]
   go_enter Tryz.func165, Tryz.ntmps165
   go_wp2_with fail
   go_ret
   exact ⟨by cases leapB y <;> rfl, HB.out⟩
  ·rw [show ((12 : Nat) : Int) = 12 from rfl]
   go_enter Tryz.func165, Tryz.ntmps165
   go_wp2_with fail
   go_ret
   exact ⟨by cases leapB y <;> rfl, HB.out⟩
theorem cum_step (lp : Bool) {m : Nat} (h : 1 ≤ m) : cumB lp m = cumB lp (m - 1) + lenB lp m := by
 obtain ⟨j, rfl⟩ : ∃ j, m = j + 1 := ⟨m - 1, by omega⟩
 rfl
theorem cum_bd (lp : Bool) {m : Nat} (h : m ≤ 12) : 0 ≤ cumB lp m ∧ cumB lp m ≤ 366 := by
 have h1 := cum_mono lp (m := 0) (k := m) (by omega)
 have h2 := cum_mono lp (m := m) (k := 12) h
 rw [cum12] at h2
 have : ylen lp ≤ 366 := by unfold ylen; split <;> omega
 have h3 : cumB lp 0 = 0 := rfl
 omega
theorem bg_bd {y : Int} (h0 : 1900 ≤ y) (h1 : y ≤ 2300) : 0 ≤ bg y ∧ bg y ≤ 146500 := by unfold bg; omega
theorem dOf_any (y : Int) (m : Nat) (d : Int) (hv : VDate y m d) (w : World) :
 Calls Tryz.prog 101 #[.int .i64 y, .int .i64 (m : Int), .int .i64 d] w fun e w' => e = .returned (.tuple #[.int .i64 (dayOf y m d), .int .i64 0]) ∧ Below w.heap.size w w' := by
 obtain ⟨h1, h2, h3, h4, h5, h6⟩ := hv
 have hle := lenB_pos (leapB y) m
 have hbg := bg_bd h1 (by omega)
 have HLN := Lib.hid (fun (k : Nat) (k0 : 1 ≤ k) (k1 : k ≤ 12) W => length_any y k (by omega) (by omega) k0 k1 W)
 have HBG := Lib.hid (fun W => begin_any y h1 (by omega) W)
 go_enter Tryz.func101, Tryz.ntmps101
 go_wp2_with fail
 refine (HLN.out m h3 h4 w).mono ?_
 rintro e w1 ⟨rfl, hB1⟩
 go_wp2_with fail
 refine (HBG.out w1).mono ?_
 rintro e w2 ⟨rfl, rfl⟩
 go_wp2_with fail
 go_loopw [8, 9] (fun v8 v9 wr => ∃ k : Nat, v9 = .int .i64 (k : Int) ∧ v8 = .int .i64 (bg y + d - 1 + cumB (leapB y) (k - 1)) ∧ 1 ≤ k ∧ k ≤ m ∧ Below w.heap.size w wr) (fun _ v9 _ => 13 - (intOf v9).toNat)
 case atStart => exact ⟨1, rfl, by simp [cumB], by omega, by omega, hB1⟩
 case round =>
  obtain ⟨k, rfl, rfl, k0, k1, hB⟩ := hrel
  have hcb := cum_bd (leapB y) (m := k - 1) (by omega)
  rcases Nat.lt_or_ge k m with hlt | hge
  ·have hc : decide ((k : Int) < (m : Int)) = true := decide_eq_true (by omega)
   have hlk := lenB_pos (leapB y) k
   go_wp2_with fail
   refine (HLN.out k k0 (by omega) wr).mono ?_
   rintro e w3 ⟨rfl, hB3⟩
   go_wp2_with fail
   refine ⟨⟨k + 1, by simp, ?_, by omega, by omega, hB.trans (hB3.mono hB.size)⟩, by simp [intOf]; omega⟩
   rw [show k + 1 - 1 = k from rfl, cum_step _ k0]; congr 1; omega
  ·have hc : decide ((k : Int) < (m : Int)) = false := decide_eq_false (by omega)
   have hkm : k = m := by omega
   subst hkm
   go_wp2_with fail
   go_ret2
   refine ⟨?_, hB⟩
   rw [show dayOf y k d = -25567 + (bg y + d - 1 + cumB (leapB y) (k - 1)) from by unfold dayOf; omega]; rfl
def okDay (d : Int) : Prop := -25567 ≤ d ∧ d ≤ 84005
instance (d : Int) : Decidable (okDay d) := by unfold okDay; infer_instance
theorem dvalid_any (d : Int) (w : World) :
 Calls Tryz.prog 228 #[.int .i64 d] w fun e w' => e = .returned (.bool (decide (okDay d))) ∧ w' = w := by
 go_enter Tryz.func228, Tryz.ntmps228
 go_wp2_with fail
 all_goals (go_ret; refine ⟨?_, rfl⟩; first | (rw [decide_eq_true (p := okDay d) (by unfold okDay; omega)]; rfl) | (rw [decide_eq_false (p := okDay d) (by unfold okDay; omega)]; rfl) | (simp [okDay, *]; done))
def PartsPost (d : Int) (w : World) (e : Ending) (w' : World) : Prop := ∃ (y : Int) (m : Nat) (dd : Int), e = .returned (.tuple #[.int .i64 y, .int .i64 (m : Int), .int .i64 dd, .int .i64 0]) ∧ VDate y m dd ∧ dayOf y m dd = d ∧ Below w.heap.size w w'
theorem Parts_any (d : Int) (hd : okDay d) (w : World) :
 Calls Tryz.prog 172 #[.int .i64 d] w (PartsPost d w) := by
 have HV := Lib.hid (dvalid_any d w)
 rw [decide_eq_true hd] at HV
 obtain ⟨d0, d1⟩ := hd
 have HLN := Lib.hid (fun (y : Int) (y0 : 1900 ≤ y) (y1 : y ≤ 2300) (k : Nat) (k0 : 1 ≤ k) (k1 : k ≤ 12) W => length_any y k (by omega) (by omega) k0 k1 W)
 have HBG := Lib.hid (fun (y : Int) (y0 : 1900 ≤ y) (y1 : y ≤ 2300) W => begin_any y y0 (by omega) W)
 have hq : (d - -25567).tdiv 366 = (d + 25567) / 366 := by rw [Int.tdiv_eq_ediv_of_nonneg (by omega)]; congr 1
 go_enter Tryz.func172, Tryz.ntmps172
 go_wp2_with fail
 refine HV.out.mono ?_
 rintro e w1 ⟨rfl, rfl⟩
 go_wp2_with fail
 go_loopw [7] (fun v7 wr => ∃ y : Int, v7 = .int .i64 y ∧ 1900 ≤ y ∧ y ≤ 2199 ∧ bg y ≤ d + 25567 ∧ wr = w1) (fun v7 _ => 2300 - (intOf v7).toNat)
 case atStart => exact ⟨1900 + (d + 25567) / 366, rfl, by omega, by omega, by unfold bg; omega, rfl⟩
 case round =>
  obtain ⟨y, rfl, y0, y1, hy, rfl⟩ := hrel
  go_wp2_with fail
  refine (HBG.out (y + 1) (by omega) (by omega) _).mono ?_
  rintro e w2 ⟨rfl, rfl⟩
  by_cases hc : bg (y + 1) ≤ d + 25567
  ·have hc' : decide (bg (y + 1) ≤ d + 25567) = true := decide_eq_true (by omega)
   have hy2 : y + 1 ≤ 2199 := by
    rcases Int.lt_or_le (y + 1) 2200 with h | h
    ·omega
    ·have := bg_mono h
     rw [show bg 2200 = 109573 from by decide] at this
     omega
   go_wp2_with fail
   refine ⟨⟨y + 1, rfl, by omega, hy2, hc, by trivial⟩, by simp [intOf]; omega⟩
  ·have hc' : decide (bg (y + 1) ≤ d + 25567) = false := decide_eq_false (by omega)
   have hbg := bg_bd y0 (by omega)
   rw [bg_succ] at hc
   rw [← cum12] at hc
   go_wp2_with fail
   refine (HBG.out y y0 (by omega) _).mono ?_
   rintro e w3 ⟨rfl, rfl⟩
   go_wp2_with fail
   go_loopw [6, 8] (fun v6 v8 wr => ∃ k : Nat, v8 = .int .i64 (k : Int) ∧ v6 = .int .i64 (d + 25567 - bg y - cumB (leapB y) (k - 1)) ∧ 1 ≤ k ∧ k ≤ 12 ∧ 0 ≤ d + 25567 - bg y - cumB (leapB y) (k - 1) ∧ Below w3.heap.size w3 wr) (fun _ v8 _ => 13 - (intOf v8).toNat)
   case atStart => exact ⟨1, rfl, by simp [cumB], by omega, by omega, by simp [cumB]; omega, Below.refl _ _⟩
   case round =>
    obtain ⟨k, rfl, rfl, k0, k1, hn, hB⟩ := hrel
    have hst := cum_step (leapB y) k0
    have hlk := lenB_pos (leapB y) k
    have hcb := cum_bd (leapB y) (m := k - 1) (by omega)
    have hcb2 := cum_mono (leapB y) (m := k) (k := 12) k1
    go_wp2_with fail
    refine (HLN.out y y0 (by omega) k k0 k1 _).mono ?_
    rintro e w4 ⟨rfl, hB4⟩
    by_cases hl : lenB (leapB y) k ≤ d + 25567 - bg y - cumB (leapB y) (k - 1)
    ·have hl' : decide (d + 25567 - bg y - cumB (leapB y) (k - 1) ≥ lenB (leapB y) k) = true := decide_eq_true hl
     have hk12 : k ≤ 11 := by
      rcases Nat.lt_or_ge k 12 with h | h
      ·omega
      ·have : k = 12 := by omega
       subst this; omega
     go_wp2_with fail
     refine (HLN.out y y0 (by omega) k k0 k1 _).mono ?_
     rintro e w5 ⟨rfl, hB5⟩
     go_wp2_with fail
     have hB45 := hB.trans (hB4.mono hB.size)
     refine ⟨⟨k + 1, by simp, ?_, by omega, by omega, ?_, hB45.trans (hB5.mono hB45.size)⟩, by simp [intOf]; omega⟩
     ·rw [show k + 1 - 1 = k from rfl, hst]; congr 1; omega
     ·rw [show k + 1 - 1 = k from rfl, hst]; omega
    ·have hl' : decide (d + 25567 - bg y - cumB (leapB y) (k - 1) ≥ lenB (leapB y) k) = false := decide_eq_false hl
     go_wp2_with fail
     refine bodyPost_ret (v := .tuple #[.int .i64 y, .int .i64 (k : Int), .int .i64 (d + 25567 - bg y - cumB (leapB y) (k - 1) + 1), .int .i64 0]) (by simp [results, Tryz.results172, go_sem]) rfl ?_
     refine ⟨y, k, _, rfl, ⟨y0, y1, k0, k1, by omega, by omega⟩, by unfold dayOf; omega, hB.trans (hB4.mono hB.size)⟩
end Go.Proofs.YtcnmoobojdopgaaGreatDoor
namespace Tr
theorem cum_lt12 (lp : Bool) {m : Nat} (h : 1 ≤ m) : cumB lp m = cumB lp (m - 1) + lenB lp m := by
 obtain ⟨j, rfl⟩ : ∃ j, m = j + 1 := ⟨m - 1, by omega⟩
 rfl
theorem date_next {y : Int} {m : Nat} {d : Int} (h : VDate y m d) (hl : dayOf y m d < 84005) : ∃ (y' : Int) (m' : Nat) (d' : Int), VDate y' m' d' ∧ dayOf y' m' d' = dayOf y m d + 1 := by
 obtain ⟨h1, h2, h3, h4, h5, h6⟩ := h
 rcases Int.lt_or_le d (lenB (leapB y) m) with hd | hd
 ·exact ⟨y, m, d + 1, ⟨h1, h2, h3, h4, by omega, by omega⟩, by unfold dayOf; omega⟩
 ·have hc := cum_lt12 (leapB y) h3
  rcases Nat.lt_or_ge m 12 with hm | hm
  ·exact ⟨y, m + 1, 1, ⟨h1, h2, by omega, by omega, by omega, by have := (lenB_pos (leapB y) (m + 1)).1; omega⟩, by unfold dayOf; rw [show m + 1 - 1 = m from rfl, hc]; omega⟩
  ·have h12 : m = 12 := by omega
   subst h12
   have hb := bg_succ y
   have c12 := cum12 (leapB y)
   have e : dayOf y 12 d + 1 = -25567 + bg (y + 1) := by unfold dayOf; rw [hb, ← c12, hc]; omega
   have hy : y + 1 ≤ 2199 := by
    rcases Int.lt_or_le y 2199 with hy | hy
    ·omega
    ·have e2 : y = 2199 := by omega
     have h9 : bg 2200 = 109573 := by decide
     rw [show y + 1 = 2200 from by omega, h9] at e
     omega
   refine ⟨y + 1, 1, 1, ⟨by omega, hy, by omega, by omega, by omega, by have := (lenB_pos (leapB (y + 1)) 1).1; omega⟩, ?_⟩
   rw [e]
   unfold dayOf
   rw [show cumB (leapB (y + 1)) (1 - 1) = 0 from rfl]
   omega
theorem date_ex_nat (n : Nat) : (n : Int) ≤ 109572 → ∃ (y : Int) (m : Nat) (d : Int), VDate y m d ∧ dayOf y m d = -25567 + n := by
 induction n with
 | zero =>
   intro _
   refine ⟨1900, 1, 1, ⟨by decide, by decide, by decide, by decide, by decide, by decide⟩, ?_⟩
   unfold dayOf
   rw [show bg 1900 = 0 from by decide, show cumB (leapB 1900) (1 - 1) = 0 from rfl]
   omega
 | succ n ih =>
   intro h
   obtain ⟨y, m, d, hv, hd⟩ := ih (by omega)
   obtain ⟨y', m', d', hv', hd'⟩ := date_next hv (by omega)
   exact ⟨y', m', d', hv', by rw [hd', hd]; omega⟩
theorem date_ex {d : Int} (h0 : -25567 ≤ d) (h1 : d ≤ 84005) : ∃ (y : Int) (m : Nat) (dd : Int), VDate y m dd ∧ dayOf y m dd = d := by
 obtain ⟨y, m, dd, hv, hd⟩ := date_ex_nat (d + 25567).toNat (by omega)
 exact ⟨y, m, dd, hv, by rw [hd]; omega⟩
noncomputable def dparts (d : Int) : Int × Nat × Int := by classical exact if h : ∃ p : Int × Nat × Int, VDate p.1 p.2.1 p.2.2 ∧ dayOf p.1 p.2.1 p.2.2 = d then h.choose else (0, 0, 0)
theorem dparts_eq {y : Int} {m : Nat} {dd d : Int} (h : VDate y m dd) (hd : dayOf y m dd = d) : dparts d = (y, m, dd) := by
 have hex : ∃ p : Int × Nat × Int, VDate p.1 p.2.1 p.2.2 ∧ dayOf p.1 p.2.1 p.2.2 = d := ⟨(y, m, dd), h, hd⟩
 unfold dparts
 rw [dif_pos hex]
 obtain ⟨h', e'⟩ := hex.choose_spec
 obtain ⟨e1, e2, e3⟩ := date_unique h h' (hd.trans e'.symm)
 exact Prod.ext e1.symm (Prod.ext e2.symm e3.symm)
theorem dparts_ok {d : Int} (h0 : -25567 ≤ d) (h1 : d ≤ 84005) : VDate (dparts d).1 (dparts d).2.1 (dparts d).2.2 ∧ dayOf (dparts d).1 (dparts d).2.1 (dparts d).2.2 = d := by
 obtain ⟨y, m, dd, hv, hd⟩ := date_ex h0 h1
 rw [dparts_eq hv hd]
 exact ⟨hv, hd⟩
def kY (k : Int) : Int := k / 12
def kM (k : Int) : Nat := (k % 12).toNat + 1
def kL (k : Int) : Int := lenB (leapB (kY k)) (kM k)
def kBeg (k : Int) : Int := -25567 + bg (kY k) + cumB (leapB (kY k)) (kM k - 1)
def kDay (k dd : Int) : Int := kBeg k + min dd (kL k) - 1
theorem kL_pos (k : Int) : 28 ≤ kL k ∧ kL k ≤ 31 := lenB_pos _ _
theorem kM_bd (k : Int) : 1 ≤ kM k ∧ kM k ≤ 12 := by unfold kM; omega
theorem k_of {y : Int} {m : Nat} (h1 : 1 ≤ m) (h2 : m ≤ 12) : kY (12 * y + m - 1) = y ∧ kM (12 * y + m - 1) = m := by unfold kY kM; omega
theorem kDay_of (k dd : Int) : kDay k dd = dayOf (kY k) (kM k) (min dd (kL k)) := by unfold kDay kBeg dayOf; omega
theorem kBeg_succ (k : Int) : kBeg (k + 1) = kBeg k + kL k := by
 unfold kL kBeg
 have hm := kM_bd k
 rcases Nat.lt_or_ge (kM k) 12 with h | h
 ·have e1 : kY (k + 1) = kY k := by unfold kM at h; unfold kY; omega
  have e2 : kM (k + 1) = kM k + 1 := by unfold kM at h ⊢; omega
  rw [e1, e2, show kM k + 1 - 1 = kM k from rfl, cum_lt12 _ hm.1]
  omega
 ·have e1 : kY (k + 1) = kY k + 1 := by unfold kM at h; unfold kY; omega
  have e2 : kM (k + 1) = 1 := by unfold kM at h ⊢; omega
  have e3 : kM k = 12 := by omega
  rw [e1, e2, e3, bg_succ, ← cum12, show cumB (leapB (kY k + 1)) (1 - 1) = 0 from rfl, cum_lt12 (leapB (kY k)) (m := 12) (by omega)]
  omega
theorem kBeg_add (k : Int) : ∀ n : Nat, kBeg k + 28 * n ≤ kBeg (k + n) ∧ kBeg (k + n) ≤ kBeg k + 31 * n
 | 0 => by simp
 | n + 1 => by
   have ih := kBeg_add k n
   have h := kBeg_succ (k + n)
   have hl := kL_pos (k + n)
   rw [show k + ((n + 1 : Nat) : Int) = k + n + 1 from by omega]
   omega
theorem kBeg_le {k k' : Int} (h : k < k') : kBeg k + kL k ≤ kBeg k' := by
 have h1 := (kBeg_add (k + 1) (k' - (k + 1)).toNat).1
 rw [show k + 1 + ((k' - (k + 1)).toNat : Int) = k' from by omega] at h1
 rw [← kBeg_succ]
 omega
theorem kDay_in {k dd : Int} (h1 : 1 ≤ dd) : kBeg k ≤ kDay k dd ∧ kDay k dd < kBeg k + kL k := by
 have := kL_pos k
 unfold kDay
 omega
theorem kDay_lt {k k' dd : Int} (h1 : 1 ≤ dd) (h : k < k') : kDay k dd < kDay k' dd := by
 have a := kDay_in (k := k) h1
 have b := kDay_in (k := k') h1
 have c := kBeg_le h
 omega
theorem kDay_gap {k dd : Int} (h1 : 1 ≤ dd) (n : Nat) : kDay k dd + 28 * n - 31 ≤ kDay (k + n) dd ∧ kDay (k + n) dd ≤ kDay k dd + 31 * n + 31 := by
 have a := kDay_in (k := k) h1
 have b := kDay_in (k := k + n) h1
 have c := kBeg_add k n
 have l1 := kL_pos k
 have l2 := kL_pos (k + n)
 omega
theorem kDay_valid {k dd : Int} (h1 : 1 ≤ dd) (h0 : 22800 ≤ k) (h2 : k < 26400) : VDate (kY k) (kM k) (min dd (kL k)) := by
 have := kL_pos k
 refine ⟨by unfold kY; omega, by unfold kY; omega, (kM_bd k).1, (kM_bd k).2, by omega, ?_⟩
 show min dd (kL k) ≤ kL k
 omega
noncomputable def dK (d : Int) : Int := 12 * (dparts d).1 + (dparts d).2.1 - 1
noncomputable def dD (d : Int) : Int := (dparts d).2.2
theorem dK_ok {d : Int} (h0 : -25567 ≤ d) (h1 : d ≤ 84005) : kDay (dK d) (dD d) = d ∧ 22800 ≤ dK d ∧ dK d < 26400 ∧ 1 ≤ dD d ∧ dD d ≤ 31 := by
 obtain ⟨⟨a1, a2, a3, a4, a5, a6⟩, hd⟩ := dparts_ok h0 h1
 obtain ⟨e1, e2⟩ := k_of (y := (dparts d).1) a3 a4
 have hl := (lenB_pos (leapB (dparts d).1) (dparts d).2.1).2
 refine ⟨?_, by unfold dK; omega, by unfold dK; omega, a5, by unfold dD; omega⟩
 unfold dK dD
 rw [kDay_of]
 unfold kL
 rw [e1, e2, Int.min_eq_left a6]
 exact hd
theorem dK_eq {y : Int} {m : Nat} {dd d : Int} (h : VDate y m dd) (hd : dayOf y m dd = d) : dK d = 12 * y + m - 1 ∧ dD d = dd := by
 unfold dK dD
 rw [dparts_eq h hd]
 exact ⟨rfl, rfl⟩
noncomputable def addM (d n : Int) : Option Int := if (-4800 ≤ n ∧ n ≤ 4800) ∧ 22800 ≤ dK d + n ∧ dK d + n < 26400 then some (kDay (dK d + n) (dD d)) else none
theorem addM_some {d n x : Int} (h : addM d n = some x) : x = kDay (dK d + n) (dD d) ∧ -4800 ≤ n ∧ n ≤ 4800 ∧ 22800 ≤ dK d + n ∧ dK d + n < 26400 := by
 unfold addM at h
 split at h
 case isTrue hc => injection h with h; exact ⟨h.symm, hc.1.1, hc.1.2, hc.2.1, hc.2.2⟩
 case isFalse => cases h
noncomputable def cutAt (a b mo : Int) (j : Nat) : Option Int := match addM b (-(j * mo)) with
 | some d => if a < d then some d else none
 | none => none
noncomputable def cutsF (a b mo : Int) : Nat → Nat → List Int
 | 0, _ => []
 | f + 1, j => match cutAt a b mo j with
   | some d => d :: cutsF a b mo f (j + 1)
   | none => []
noncomputable def cuts (a b mo : Int) : List Int := cutsF a b mo 4801 1
theorem cutAt_some {a b mo d : Int} {j : Nat} (h : cutAt a b mo j = some d) : addM b (-(j * mo)) = some d ∧ a < d := by
 unfold cutAt at h
 split at h
 ·rename_i x hx
  split at h
  ·injection h with h; subst h; exact ⟨hx, by assumption⟩
  ·cases h
 ·cases h
theorem cutAt_of {a b mo d : Int} {j : Nat} (h : addM b (-(j * mo)) = some d) (hl : a < d) : cutAt a b mo j = some d := by
 unfold cutAt; rw [h]; exact if_pos hl
theorem cutAt_none {a b mo : Int} {j : Nat} (h : ∀ d, addM b (-(j * mo)) = some d → d ≤ a) : cutAt a b mo j = none := by
 unfold cutAt
 split
 ·rename_i x hx
  exact if_neg (Int.not_lt.2 (h x hx))
 ·rfl
theorem cutsF_get (a b mo : Int) : ∀ (f j i : Nat) (d : Int), (cutsF a b mo f j)[i]? = some d → cutAt a b mo (j + i) = some d
 | 0, _, _, _, h => by simp [cutsF] at h
 | f + 1, j, i, d, h => by
   unfold cutsF at h
   split at h
   ·rename_i x hx
    cases i with
    | zero => simp at h; subst h; exact hx
    | succ i =>
      have := cutsF_get a b mo f (j + 1) i d (by simpa using h)
      rwa [show j + (i + 1) = j + 1 + i from by omega]
   ·simp at h
theorem cutsF_end (a b mo : Int) : ∀ (f j : Nat), (cutsF a b mo f j).length < f → cutAt a b mo (j + (cutsF a b mo f j).length) = none
 | 0, _, h => absurd h (Nat.not_lt_zero _)
 | f + 1, j, h => by
   unfold cutsF at h ⊢
   split at h
   ·rename_i x hx
    rw [List.length_cons] at h ⊢
    have := cutsF_end a b mo f (j + 1) (by omega)
    rwa [show j + ((cutsF a b mo f (j + 1)).length + 1) = j + 1 + (cutsF a b mo f (j + 1)).length from by omega]
   ·rename_i hx
    exact hx
theorem cuts_get {a b mo d : Int} {i : Nat} (h : (cuts a b mo)[i]? = some d) : addM b (-(((i + 1 : Nat) : Int) * mo)) = some d ∧ a < d := by
 have := cutsF_get a b mo 4801 1 i d h
 rw [Nat.add_comm 1 i] at this
 exact cutAt_some this
theorem cuts_len {a b mo : Int} (hmo : 1 ≤ mo) : (cuts a b mo).length ≤ 4800 := by
 rcases Nat.lt_or_ge 4800 (cuts a b mo).length with h | h
 ·obtain ⟨d, hd⟩ : ∃ d, (cuts a b mo)[4800]? = some d := ⟨_, List.getElem?_eq_getElem h⟩
  have h1 := (addM_some (cuts_get hd).1).2.1
  have : (4801 : Int) * 1 ≤ 4801 * mo := Int.mul_le_mul_of_nonneg_left hmo (by decide)
  rw [show (((4800 + 1 : Nat)) : Int) = 4801 from rfl] at h1
  omega
 ·exact h
theorem cuts_end {a b mo : Int} (hmo : 1 ≤ mo) : cutAt a b mo ((cuts a b mo).length + 1) = none := by
 have := cutsF_end a b mo 4801 1 (by have := cuts_len (a := a) (b := b) hmo; unfold cuts at this; omega)
 rwa [Nat.add_comm 1] at this
theorem cuts_next {a b mo : Int} (hmo : 1 ≤ mo) {i : Nat} (h : i ≤ (cuts a b mo).length) : (cuts a b mo)[i]? = cutAt a b mo (i + 1) := by
 rcases Nat.lt_or_ge i (cuts a b mo).length with h1 | h1
 ·obtain ⟨d, hd⟩ : ∃ d, (cuts a b mo)[i]? = some d := ⟨_, List.getElem?_eq_getElem h1⟩
  obtain ⟨g1, g2⟩ := cuts_get hd
  rw [hd, cutAt_of g1 g2]
 ·have e : i = (cuts a b mo).length := by omega
  rw [e, cuts_end hmo]
  exact List.getElem?_eq_none (Nat.le_refl _)
theorem cuts_desc {a b mo : Int} (hmo : 1 ≤ mo) (h0 : -25567 ≤ b) (h1 : b ≤ 84005) {i j : Nat} {x y : Int} (hij : i < j) (hx : (cuts a b mo)[i]? = some x) (hy : (cuts a b mo)[j]? = some y) : y < x := by
 obtain ⟨ex, _⟩ := addM_some (cuts_get hx).1
 obtain ⟨ey, _⟩ := addM_some (cuts_get hy).1
 obtain ⟨_, _, _, hd, _⟩ := dK_ok h0 h1
 rw [ex, ey]
 refine kDay_lt hd ?_
 have : ((i + 1 : Nat) : Int) * mo < ((j + 1 : Nat) : Int) * mo := Int.mul_lt_mul_of_pos_right (by omega) (by omega)
 omega
theorem cuts_lt {a b mo : Int} (hmo : 1 ≤ mo) (h0 : -25567 ≤ b) (h1 : b ≤ 84005) {x : Int} (hx : x ∈ cuts a b mo) : a < x ∧ x < b := by
 obtain ⟨i, hi⟩ := List.getElem?_of_mem hx
 obtain ⟨g1, g2⟩ := cuts_get hi
 refine ⟨g2, ?_⟩
 obtain ⟨ex, _⟩ := addM_some g1
 obtain ⟨eb, _, _, hd, _⟩ := dK_ok h0 h1
 rw [ex]
 conv => rhs; rw [← eb]
 refine kDay_lt hd ?_
 have : (1 : Int) * 1 ≤ ((i + 1 : Nat) : Int) * mo := Int.mul_le_mul (by omega) hmo (by omega) (by omega)
 omega
theorem cuts_few {a b mo : Int} (hmo : 1 ≤ mo) (h0 : -25567 ≤ b) (h1 : b ≤ 84005) (hs : b - a ≤ 372 * mo) : (cuts a b mo).length ≤ 14 := by
 rcases Nat.lt_or_ge 14 (cuts a b mo).length with h | h
 ·obtain ⟨d, hd⟩ : ∃ d, (cuts a b mo)[14]? = some d := ⟨_, List.getElem?_eq_getElem h⟩
  obtain ⟨g1, g2⟩ := cuts_get hd
  obtain ⟨ex, _⟩ := addM_some g1
  obtain ⟨eb, _, _, hdd, _⟩ := dK_ok h0 h1
  have hg := (kDay_gap (k := dK b + -(((14 + 1 : Nat) : Int) * mo)) hdd (15 * mo).toNat).1
  rw [show dK b + -(((14 + 1 : Nat) : Int) * mo) + ((15 * mo).toNat : Int) = dK b from by omega, eb, ← ex] at hg
  omega
 ·exact h
def pairs : List Int → List (Int × Int)
 | a :: b :: r => (a, b) :: pairs (b :: r)
 | _ => []
theorem pairs_len : ∀ l : List Int, (pairs l).length = l.length - 1
 | [] => rfl
 | [_] => rfl
 | a :: b :: r => by
   rw [pairs, List.length_cons, pairs_len (b :: r)]
   rfl
theorem pairs_get : ∀ (l : List Int) (i : Nat), (pairs l)[i]? = (match l[i]?, l[i + 1]? with | some a, some b => some (a, b) | _, _ => none)
 | [], i => by simp [pairs]
 | [a], i => by cases i <;> simp [pairs]
 | a :: b :: r, i => by
   cases i with
   | zero => simp [pairs]
   | succ i =>
     rw [pairs, List.getElem?_cons_succ, pairs_get (b :: r) i]
     rfl
noncomputable def ends (a b mo : Int) : List Int := a :: ((cuts a b mo).reverse ++ [b])
noncomputable def pers (a b mo : Int) : List (Int × Int) := pairs (ends a b mo)
theorem pers_len (a b mo : Int) : (pers a b mo).length = (cuts a b mo).length + 1 := by
 unfold pers ends
 rw [pairs_len, List.length_cons, List.length_append, List.length_reverse]
 rfl
theorem ends_asc {a b mo : Int} (hmo : 1 ≤ mo) (h0 : -25567 ≤ b) (h1 : b ≤ 84005) (hab : a < b) : (ends a b mo).Pairwise (· < ·) := by
 unfold ends
 rw [List.pairwise_cons, List.pairwise_append]
 refine ⟨fun x hx => ?_, ?_, List.pairwise_singleton _ _, fun x hx y hy => ?_⟩
 ·rw [List.mem_append, List.mem_reverse, List.mem_singleton] at hx
  rcases hx with hx | rfl
  ·exact (cuts_lt hmo h0 h1 hx).1
  ·exact hab
 ·rw [List.pairwise_reverse, List.pairwise_iff_getElem]
  intro i j hi hj hij
  exact cuts_desc hmo h0 h1 hij (List.getElem?_eq_getElem hi) (List.getElem?_eq_getElem hj)
 ·rw [List.mem_reverse] at hx
  rw [List.mem_singleton] at hy
  subst hy
  exact (cuts_lt hmo h0 h1 hx).2
end Tr
namespace Go.Proofs.YtcnmoobojdopgaaGreatDoor
open Go.RowKit Tr Go.Shelf
def addV (o : Option Int) : Value := match o with
 | some x => .tuple #[.int .i64 x, .int .i64 0]
 | none => .tuple #[.int .i64 0, .int .i64 13]
theorem addV_some (x : Int) : addV (some x) = .tuple #[.int .i64 x, .int .i64 0] := rfl
theorem addV_none : addV none = .tuple #[.int .i64 0, .int .i64 13] := rfl
theorem addM_eq {d n K y dd : Int} {m : Nat} (h : VDate y m dd) (hd : dayOf y m dd = d) (h0 : -4800 ≤ n) (h1 : n ≤ 4800) (hK : 12 * y + (m : Int) - 1 + n = K) :
 addM d n = if 22800 ≤ K ∧ K < 26400 then some (kDay K dd) else none := by
 obtain ⟨eK, eD⟩ := dK_eq h hd
 have e : dK d + n = K := by rw [eK]; omega
 unfold addM
 rw [e, eD]
 by_cases hc : 22800 ≤ K ∧ K < 26400
 ·rw [if_pos ⟨⟨h0, h1⟩, hc⟩, if_pos hc]
 ·rw [if_neg (fun x => hc x.2), if_neg hc]
theorem dAddM_any (d n : Int) (hd : okDay d) (h0 : -4800 ≤ n) (h1 : n ≤ 4800) (w : World) :
 Calls Tryz.prog 218 #[.int .i64 d, .int .i64 n] w fun e w' => e = .returned (addV (addM d n)) ∧ Below w.heap.size w w' := by
 have HP := Lib.hid (Parts_any d hd w)
 have HLN := Lib.hid (fun (K : Int) (h0 : 22800 ≤ K) (h1 : K < 26400) W => length_any (kY K) (kM K) (by unfold kY; omega) (by unfold kY; omega) (kM_bd K).1 (kM_bd K).2 W)
 have HOF := Lib.hid (fun (K dd : Int) (hv : VDate (kY K) (kM K) (min dd (kL K))) W => dOf_any (kY K) (kM K) (min dd (kL K)) hv W)
 have c1 : decide (n < -4800) = false := decide_eq_false (by omega)
 have c2 : decide (4800 < n) = false := decide_eq_false (by omega)
 have c3 : decide (n > 4800) = false := decide_eq_false (by omega)
 go_enter Tryz.func218, Tryz.ntmps218
 go_wp2_with fail
 refine HP.out.mono ?_
 rintro e w1 ⟨y, m, dd, rfl, hv, hdy, hB1⟩
 obtain ⟨K, hK⟩ : ∃ K, 12 * y + (m : Int) - 1 + n = K := ⟨_, rfl⟩
 have HE := Lib.hid (addM_eq hv hdy h0 h1 hK)
 obtain ⟨v1, v2, v3, v4, v5, v6⟩ := hv
 have hkp : 18000 ≤ K := by omega
 have hku : K ≤ 40000 := by omega
 have hq : K.tdiv 12 = kY K := by rw [Int.tdiv_eq_ediv_of_nonneg (by omega)]; rfl
 have hr : K % 12 + 1 = (kM K : Int) := by unfold kM; omega
 have hy0 : 1500 ≤ kY K := by unfold kY; omega
 have hy9 : kY K ≤ 3400 := by unfold kY; omega
 by_cases hc : 22800 ≤ K ∧ K < 26400
 ·have hy1 : decide (kY K < 1900) = false := decide_eq_false (by unfold kY; omega)
  have hy2 : decide (2199 < kY K) = false := decide_eq_false (by unfold kY; omega)
  have hy3 : decide (kY K > 2199) = false := decide_eq_false (by unfold kY; omega)
  have HV := Lib.hid (kDay_valid (k := K) v5 hc.1 hc.2)
  have HD := Lib.hid (kDay_of K dd)
  have HLL := Lib.hid (HLN.out K hc.1 hc.2)
  have HO := Lib.hid (HOF.out K dd HV.out)
  rw [if_pos hc] at HE
  clear hc HOF HLN HV
  go_wp2_with fail
  refine (HLL.out _).mono ?_
  rintro e w2 ⟨rfl, hB2⟩
  go_wp2_with fail
  refine (HO.out _).mono ?_
  rintro e w3 ⟨rfl, hB3⟩
  go_wp2_with fail
  go_ret2
  have b2 := hB1.trans (hB2.mono hB1.size)
  exact ⟨by rw [HE.out, HD.out]; rfl, b2.trans (hB3.mono b2.size)⟩
 ·have hx : decide (kY K < 1900) = true ∨ (decide (kY K < 1900) = false ∧ decide (kY K > 2199) = true) := by
   rcases Int.lt_or_le K 22800 with h | h
   ·exact .inl (decide_eq_true (by unfold kY; omega))
   ·exact .inr ⟨decide_eq_false (by unfold kY; omega), decide_eq_true (by unfold kY; omega)⟩
  rw [if_neg hc] at HE
  clear hc HOF HLN
  rcases hx with hx | ⟨hx, hx2⟩
  all_goals (go_wp2_with fail; go_ret2; exact ⟨by rw [HE.out]; rfl, hB1⟩)
theorem sChk_ok (mo : Int) (h0 : 1 ≤ mo) (h1 : mo ≤ 4800) (w : World) :
 Calls Tryz.prog 152 #[.bool true, .int .i64 mo, .int .i64 1] w fun e w' => e = .returned (.int .i64 0) ∧ w = w' := by
 have c1 : decide (mo < 1) = false := decide_eq_false (by omega)
 have c2 : decide (4800 < mo) = false := decide_eq_false (by omega)
 clear h0 h1
 go_enter Tryz.func152, Tryz.ntmps152
 go_wp2_with fail
 go_ret
 exact ⟨rfl, rfl⟩
theorem sVal1_ok (d : Int) (hd : okDay d) (w : World) : Calls Tryz.prog 216 #[.int .i64 d] w fun e w' => e = .returned (.bool false) ∧ w = w' := by
 have c1 : decide (d < -25567) = false := decide_eq_false (by unfold okDay at hd; omega)
 have c2 : decide (84005 < d) = false := decide_eq_false (by unfold okDay at hd; omega)
 clear hd
 go_enter Tryz.func216, Tryz.ntmps216
 go_wp2_with fail
 go_ret
 exact ⟨rfl, rfl⟩
theorem sIndexDay_two (g : Nat) (a b : Int) (c : Nat) (ha : okDay a) (hb : okDay b) (w : World) (ca : w.cell? ⟨g, 0, none⟩ = some (.int .i64 a)) (cb : w.cell? ⟨g, 1, none⟩ = some (.int .i64 b)) :
 Calls Tryz.prog 262 #[.slice (some ⟨g, 0, none⟩) 2 c, .func (.func 216) #[] #[]] w fun e w' => e = .returned (.int .i64 (-1)) ∧ w = w' := by
 have HA := Lib.hid (fun W => sVal1_ok a ha W)
 have HB := Lib.hid (fun W => sVal1_ok b hb W)
 clear ha hb
 go_enter Tryz.func262, Tryz.ntmps262
 go_wp2_with fail
 go_loop [8] (fun v => ∃ k : Nat, v = .int .i64 (k : Int) ∧ k ≤ 2) (fun v => 2 - (intOf v).toNat)
 case atStart => exact ⟨0, rfl, by omega⟩
 case round =>
  obtain ⟨k, rfl, hk⟩ := hrel
  obtain rfl | rfl | rfl : k = 0 ∨ k = 1 ∨ k = 2 := by omega
  ·rw [show ((0 : Nat) : Int) = 0 from rfl]
   go_wp2_with fail
   refine (HA.out _).mono ?_
   rintro e w1 ⟨rfl, rfl⟩
   go_wp2_with fail
   go_round
   case rel => exact ⟨1, rfl, by omega⟩
   case measure => simp [intOf]
  ·rw [show ((1 : Nat) : Int) = 1 from rfl]
   go_wp2_with fail
   refine (HB.out _).mono ?_
   rintro e w1 ⟨rfl, rfl⟩
   go_wp2_with fail
   go_round
   case rel => exact ⟨2, rfl, by omega⟩
   case measure => simp [intOf]
  ·rw [show ((2 : Nat) : Int) = 2 from rfl]
   go_wp2_with fail
   go_ret
   exact ⟨rfl, rfl⟩
theorem sVal_two (g : Nat) (a b : Int) (c : Nat) (ha : okDay a) (hb : okDay b) (w : World) (ca : w.cell? ⟨g, 0, none⟩ = some (.int .i64 a)) (cb : w.cell? ⟨g, 1, none⟩ = some (.int .i64 b)) :
 Calls Tryz.prog 153 #[.slice (some ⟨g, 0, none⟩) 2 c] w fun e w' => e = .returned (.bool true) ∧ w = w' := by
 have HC : ∀ W : World, W = w → Calls Tryz.prog 215 #[.slice (some ⟨g, 0, none⟩) 2 c, .func (.func 216) #[] #[]] W fun e w' => e = .returned (.bool false) ∧ W = w' := by
  intro W hW
  have HI := Lib.hid (sIndexDay_two g a b c ha hb w ca cb)
  subst hW
  clear ha hb ca cb
  go_enter Tryz.func215, Tryz.ntmps215
  go_wp2_with fail
  refine HI.out.mono ?_
  rintro e w1 ⟨rfl, rfl⟩
  go_wp2_with fail
  go_ret
  exact ⟨rfl, rfl⟩
 have H := Lib.hid (HC w rfl)
 clear HC ha hb ca cb
 go_enter Tryz.func153, Tryz.ntmps153
 go_wp2_with fail
 refine H.out.mono ?_
 rintro e w1 ⟨rfl, rfl⟩
 go_wp2_with fail
 go_ret
 exact ⟨rfl, rfl⟩
theorem sInner_any (a b mo : Int) (w : World) :
 Calls Tryz.prog 154 #[.agg #[.int .i64 a, .int .i64 b], .int .i64 mo, .int .i64 1] w fun e w' => e = .returned (.func (.func 217) #[] #[.pointer (some ⟨w.heap.size, 0, none⟩), .pointer (some ⟨w.heap.size + 2, 0, none⟩), .pointer (some ⟨w.heap.size + 1, 0, none⟩)]) ∧
  w' = ((w.alloc (.cells #[.int .i64 a, .int .i64 b] 60)).alloc (.cells #[.int .i64 mo] 3)).alloc (.cells #[.int .i64 1] 3) := by
 go_enter Tryz.func154, Tryz.ntmps154
 go_wp2_with fail
 go_ret
 exact ⟨rfl, rfl⟩
end Go.Proofs.YtcnmoobojdopgaaGreatDoor
namespace Tr
def d30 (c : Int) (y : Int) (m : Nat) (d : Int) (z : Int) (n : Nat) (e : Int) : Int :=
 360 * (z - y) + 30 * ((n : Int) - m) + (if c = 4 ∨ min d 30 = 30 then min e 30 else e) - min d 30
noncomputable def days30 (c a b : Int) : Int := d30 c (dparts a).1 (dparts a).2.1 (dparts a).2.2 (dparts b).1 (dparts b).2.1 (dparts b).2.2
theorem days30_eq {c a b : Int} {y z : Int} {m n : Nat} {d e : Int} (h : VDate y m d) (ha : dayOf y m d = a) (k : VDate z n e) (hb : dayOf z n e = b) : days30 c a b = d30 c y m d z n e := by
 unfold days30
 rw [dparts_eq h ha, dparts_eq k hb]
theorem date_next3 {y : Int} {m : Nat} {d : Int} (h : VDate y m d) (hl : dayOf y m d < 84005) :
 (VDate y m (d + 1) ∧ dayOf y m (d + 1) = dayOf y m d + 1) ∨ (d = lenB (leapB y) m ∧ m < 12 ∧ VDate y (m + 1) 1 ∧ dayOf y (m + 1) 1 = dayOf y m d + 1) ∨ (d = 31 ∧ m = 12 ∧ VDate (y + 1) 1 1 ∧ dayOf (y + 1) 1 1 = dayOf y m d + 1) := by
 obtain ⟨h1, h2, h3, h4, h5, h6⟩ := h
 rcases Int.lt_or_le d (lenB (leapB y) m) with hd | hd
 ·exact .inl ⟨⟨h1, h2, h3, h4, by omega, by omega⟩, by unfold dayOf; omega⟩
 ·have hc := cum_lt12 (leapB y) h3
  rcases Nat.lt_or_ge m 12 with hm | hm
  ·exact .inr (.inl ⟨by omega, hm, ⟨h1, h2, by omega, by omega, by omega, by have := (lenB_pos (leapB y) (m + 1)).1; omega⟩, by unfold dayOf; rw [show m + 1 - 1 = m from rfl, hc]; omega⟩)
  ·have h12 : m = 12 := by omega
   subst h12
   have hb := bg_succ y
   have c12 := cum12 (leapB y)
   have hl12 : lenB (leapB y) 12 = 31 := by unfold lenB; rw [if_neg (by omega), if_neg (by omega)]
   have e : dayOf y 12 d + 1 = -25567 + bg (y + 1) := by unfold dayOf; rw [hb, ← c12, hc]; omega
   have hy : y + 1 ≤ 2199 := by
    rcases Int.lt_or_le y 2199 with hy | hy
    ·omega
    ·have e2 : y = 2199 := by omega
     have h9 : bg 2200 = 109573 := by decide
     rw [show y + 1 = 2200 from by omega, h9] at e
     omega
   refine .inr (.inr ⟨by omega, rfl, ⟨by omega, hy, by omega, by omega, by omega, by have := (lenB_pos (leapB (y + 1)) 1).1; omega⟩, ?_⟩)
   rw [e]
   unfold dayOf
   rw [show cumB (leapB (y + 1)) (1 - 1) = 0 from rfl]
   omega
theorem d30_step {c y z : Int} {m n : Nat} {d e : Int} (h : VDate y m d) (k : VDate z n e) (hl : dayOf z n e < 84005) : ∃ (z' : Int) (n' : Nat) (e' : Int), VDate z' n' e' ∧ dayOf z' n' e' = dayOf z n e + 1 ∧ d30 c y m d z n e ≤ d30 c y m d z' n' e' := by
 rcases date_next3 k hl with ⟨h1, h2⟩ | ⟨h0, h3, h1, h2⟩ | ⟨h0, h3, h1, h2⟩
 ·refine ⟨_, _, _, h1, h2, ?_⟩
  unfold d30
  split <;> omega
 ·have hl2 := lenB_pos (leapB z) n
  refine ⟨_, _, _, h1, h2, ?_⟩
  unfold d30
  have h4 : e ≤ 31 := by omega
  split <;> omega
 ·refine ⟨_, _, _, h1, h2, ?_⟩
  unfold d30
  subst h0 h3
  split <;> omega
theorem days30_mono_nat (c a b : Int) (ha : -25567 ≤ a) (ha2 : a ≤ 84005) (hb : -25567 ≤ b) (n : Nat) : b + n ≤ 84005 → days30 c a b ≤ days30 c a (b + n) := by
 induction n with
 | zero => intro _; rw [show b + ((0 : Nat) : Int) = b from by omega]; exact Int.le_refl _
 | succ n ih =>
   intro hn
   refine Int.le_trans (ih (by omega)) ?_
   obtain ⟨y, m, d, hv, hd⟩ := date_ex ha ha2
   obtain ⟨z, k, e, hw, he⟩ := date_ex (d := b + n) (by omega) (by omega)
   obtain ⟨z', k', e', hw', he', hle⟩ := d30_step (c := c) hv hw (by omega)
   rw [days30_eq hv hd hw he, days30_eq hv hd hw' (by rw [he', he]; omega : dayOf z' k' e' = b + ((n + 1 : Nat) : Int))]
   exact hle
theorem days30_mono {c a b b' : Int} (ha : -25567 ≤ a) (ha2 : a ≤ 84005) (hb : -25567 ≤ b) (h : b ≤ b') (hb2 : b' ≤ 84005) : days30 c a b ≤ days30 c a b' := by
 have := days30_mono_nat c a b ha ha2 hb (b' - b).toNat (by omega)
 rwa [show b + ((b' - b).toNat : Int) = b' from by omega] at this
theorem days30_self {c a : Int} (ha : -25567 ≤ a) (ha2 : a ≤ 84005) : days30 c a a = 0 := by
 obtain ⟨y, m, d, hv, hd⟩ := date_ex ha ha2
 rw [days30_eq hv hd hv hd]
 unfold d30
 split <;> omega
theorem days30_bd {c a b : Int} (ha : -25567 ≤ a) (ha2 : a ≤ 84005) (hb : -25567 ≤ b) (hb2 : b ≤ 84005) : (days30 c a b).natAbs ≤ 200000 := by
 obtain ⟨y, m, d, ⟨a1, a2, a3, a4, a5, a6⟩, hd⟩ := date_ex ha ha2
 obtain ⟨z, k, e, ⟨b1, b2, b3, b4, b5, b6⟩, he⟩ := date_ex hb hb2
 have l1 := lenB_pos (leapB y) m
 have l2 := lenB_pos (leapB z) k
 rw [days30_eq ⟨a1, a2, a3, a4, a5, a6⟩ hd ⟨b1, b2, b3, b4, b5, b6⟩ he]
 unfold d30
 split <;> omega
noncomputable def yrs (d : Int) : Rat := ((dparts d).1 : Rat) + ((d + 25567 - bg (dparts d).1 : Int) : Rat) / (ylen (leapB (dparts d).1) : Rat)
theorem ylen_pos (lp : Bool) : 0 < ylen lp ∧ 365 ≤ ylen lp ∧ ylen lp ≤ 366 := by unfold ylen; cases lp <;> decide
theorem yrs_eq {y : Int} {m : Nat} {dd d : Int} (h : VDate y m dd) (hd : dayOf y m dd = d) : yrs d = (y : Rat) + ((d + 25567 - bg y : Int) : Rat) / (ylen (leapB y) : Rat) := by
 unfold yrs
 rw [dparts_eq h hd]
theorem yrs_of {y d : Int} (h0 : 1900 ≤ y) (h1 : y ≤ 2199) (h2 : bg y ≤ d + 25567) (h3 : d + 25567 < bg (y + 1)) : yrs d = (y : Rat) + ((d + 25567 - bg y : Int) : Rat) / (ylen (leapB y) : Rat) := by
 have b0 := bg_mono h0
 have b1 := bg_mono (x := y + 1) (y := 2200) (by omega)
 have c1 : bg 1900 = 0 := by decide
 have c2 : bg 2200 = 109573 := by decide
 obtain ⟨z, n, e, hv, he⟩ := date_ex (d := d) (by omega) (by omega)
 have hi := in_year hv
 rw [he] at hi
 have hz : z = y := by
  rcases Int.lt_trichotomy z y with h | h | h
  ·have := bg_mono (x := z + 1) (y := y) (by omega); omega
  ·exact h
  ·have := bg_mono (x := y + 1) (y := z) (by omega); omega
 rw [← hz]
 exact yrs_eq hv he
theorem yrs_lt {y d : Int} (h0 : 1900 ≤ y) (h1 : y ≤ 2199) (h2 : bg y ≤ d + 25567) (h3 : d + 25567 < bg (y + 1)) : (y : Rat) ≤ yrs d ∧ yrs d < (y : Rat) + 1 := by
 rw [yrs_of h0 h1 h2 h3]
 have hl := ylen_pos (leapB y)
 rw [bg_succ] at h3
 have hp : (0 : Rat) < (ylen (leapB y) : Rat) := Rat.intCast_pos.2 hl.1
 have e1 : (0 : Rat) ≤ ((d + 25567 - bg y : Int) : Rat) / (ylen (leapB y) : Rat) := by
  rw [Rat.div_def]
  exact Rat.mul_nonneg (Rat.intCast_nonneg.2 (by omega)) (Rat.le_of_lt (Rat.inv_pos.2 hp))
 have e2 : ((d + 25567 - bg y : Int) : Rat) / (ylen (leapB y) : Rat) < 1 := by
  rw [Rat.div_lt_iff hp, Rat.one_mul]
  exact Rat.intCast_lt_intCast.2 (by omega)
 constructor <;> grind
theorem year_of {d : Int} (h0 : -25567 ≤ d) (h1 : d ≤ 84005) : ∃ y : Int, 1900 ≤ y ∧ y ≤ 2199 ∧ bg y ≤ d + 25567 ∧ d + 25567 < bg (y + 1) := by
 obtain ⟨y, m, dd, hv, hd⟩ := date_ex h0 h1
 have hi := in_year hv
 rw [hd] at hi
 exact ⟨y, hv.1, hv.2.1, hi.1, hi.2⟩
theorem yrs_mono {a b : Int} (h0 : -25567 ≤ a) (h : a ≤ b) (h1 : b ≤ 84005) : yrs a ≤ yrs b := by
 obtain ⟨y, y0, y1, y2, y3⟩ := year_of h0 (by omega)
 obtain ⟨z, z0, z1, z2, z3⟩ := year_of (d := b) (by omega) h1
 rcases Int.lt_trichotomy y z with hc | hc | hc
 ·have e1 := (yrs_lt y0 y1 y2 y3).2
  have e2 := (yrs_lt z0 z1 z2 z3).1
  have e3 : (y : Rat) + 1 ≤ (z : Rat) := by
   have : ((y + 1 : Int) : Rat) ≤ (z : Rat) := Rat.intCast_le_intCast.2 (by omega)
   rwa [Rat.intCast_add] at this
  grind
 ·subst hc
  rw [yrs_of y0 y1 y2 y3, yrs_of z0 z1 z2 z3]
  have hl := ylen_pos (leapB y)
  have hp : (0 : Rat) < (ylen (leapB y) : Rat) := Rat.intCast_pos.2 hl.1
  have e : ((a + 25567 - bg y : Int) : Rat) / (ylen (leapB y) : Rat) ≤ ((b + 25567 - bg y : Int) : Rat) / (ylen (leapB y) : Rat) := by
   rw [Rat.div_def, Rat.div_def]
   exact Rat.mul_le_mul_of_nonneg_right (Rat.intCast_le_intCast.2 (by omega)) (Rat.le_of_lt (Rat.inv_pos.2 hp))
  grind
 ·have := bg_mono (x := z + 1) (y := y) (by omega)
  omega
theorem yrs_step {y a e : Int} (h0 : 1900 ≤ y) (h1 : y ≤ 2199) (h2 : bg y ≤ a + 25567) (hae : a ≤ e) (h3 : a + 25567 < bg (y + 1)) (h4 : e + 25567 ≤ bg (y + 1)) (h5 : e ≤ 84005) : yrs e = yrs a + ((e - a : Int) : Rat) / (ylen (leapB y) : Rat) := by
 have hl := ylen_pos (leapB y)
 have hp : (ylen (leapB y) : Rat) ≠ 0 := by
  have : (0 : Rat) < (ylen (leapB y) : Rat) := Rat.intCast_pos.2 hl.1
  grind
 rw [yrs_of h0 h1 h2 h3]
 rcases Int.lt_or_le (e + 25567) (bg (y + 1)) with hc | hc
 ·rw [yrs_of h0 h1 (by omega) hc]
  have e1 : ((e + 25567 - bg y : Int) : Rat) = ((a + 25567 - bg y : Int) : Rat) + ((e - a : Int) : Rat) := by rw [← Rat.intCast_add]; congr 1; omega
  rw [e1, Rat.div_def, Rat.div_def, Rat.div_def]
  grind
 ·have c2 : bg 2200 = 109573 := by decide
  have hy : y + 1 ≤ 2199 := by
   rcases Int.lt_or_le y 2199 with h | h
   ·omega
   ·rw [show y + 1 = 2200 from by omega, c2] at hc; omega
  have hb2 := bg_succ (y + 1)
  have hl2 := ylen_pos (leapB (y + 1))
  rw [yrs_of (y := y + 1) (by omega) hy (by omega) (by omega)]
  have e0 : e + 25567 - bg (y + 1) = 0 := by omega
  have e1 : ((a + 25567 - bg y : Int) : Rat) + ((e - a : Int) : Rat) = (ylen (leapB y) : Rat) := by
   rw [← Rat.intCast_add]; congr 1
   have := bg_succ y
   omega
  have e2 : ((a + 25567 - bg y : Int) : Rat) / (ylen (leapB y) : Rat) + ((e - a : Int) : Rat) / (ylen (leapB y) : Rat) = 1 := by
   rw [Rat.div_def, Rat.div_def, ← Rat.add_mul, e1]
   exact Rat.mul_inv_cancel _ hp
  rw [e0, Rat.intCast_add]
  have e3 : ((0 : Int) : Rat) / (ylen (leapB (y + 1)) : Rat) = 0 := by rw [Rat.div_def]; exact Rat.zero_mul _
  rw [e3]
  have e4 : ((1 : Int) : Rat) = 1 := rfl
  grind
noncomputable def dcF (c a b : Int) : Rat :=
 if c = 5 then yrs b - yrs a
 else if c = 2 then ((b - a : Int) : Rat) / 365
 else if c = 1 then ((b - a : Int) : Rat) / 360
 else ((days30 c a b : Int) : Rat) / 360
end Tr
namespace Go.Proofs.YtcnmoobojdopgaaGreatDoor
open Go.RowKit Tr
theorem raw_facts (n d : ByteArray) (ha : n.size ≤ 16) (hb : d.size ≤ 16) : (rawN n d).size ≤ 1000000 ∧ (rawD d).size ≤ 1000000 ∧ (vl (rawN n d)).natAbs < 100000000000000000 ∧ (vl (rawD d)).natAbs < 100000000000000000 ∧ 0 < vl (rawD d) ∧ Rat.divInt (vl (rawN n d)) (vl (rawD d)) = fv n d := by
 have hn : (vl n).natAbs < 10 ^ 16 := Nat.lt_of_lt_of_le (vl_lt n) (pow_mono ha)
 have hd : (vl d).natAbs < 10 ^ 16 := Nat.lt_of_lt_of_le (vl_lt d) (pow_mono hb)
 unfold rawN rawD fv dd
 rcases Int.lt_trichotomy (vl d) 0 with h | h | h
 ·rw [if_pos h, if_neg (by omega), if_pos h, if_neg (by omega)]
  have z1 : (I (-vl n)).size ≤ 17 := I_size_le (by rw [Int.natAbs_neg]; exact hn)
  have z2 : (I (-vl d)).size ≤ 17 := I_size_le (by rw [Int.natAbs_neg]; exact hd)
  rw [vl_I, vl_I, Rat.neg_divInt_neg]
  exact ⟨by omega, by omega, by omega, by omega, by omega, rfl⟩
 ·rw [if_neg (by omega), if_pos h, if_pos h]
  have : vl one1 = 1 := by rw [one1_eq, vl_I]
  have z : one1.size = 1 := rfl
  rw [this]
  exact ⟨by omega, by omega, by omega, by omega, by omega, rfl⟩
 ·rw [if_neg (by omega), if_neg (by omega), if_neg (by omega), if_neg (by omega)]
  exact ⟨by omega, by omega, by omega, by omega, by omega, rfl⟩
theorem rfCanonical_any (n d : ByteArray) (ha : n.size ≤ 16) (hb : d.size ≤ 16) (w : World) :
 Calls Tryz.prog 189 #[.agg #[.string n, .string d]] w fun e w' => e = .returned (fenc (fv n d)) ∧ Below w.heap.size w w' := by
 obtain ⟨r1, r2, r3, r4, r5, r6⟩ := raw_facts n d ha hb
 have HR := fun W => rreduced_short (rawN n d) (rawD d) r1 r2 r3 r4 r5 W
 rw [r6] at HR
 have HR := Lib.hid HR
 have HW := Lib.hid (fun W => rRaw_any n d (by omega) (by omega) W)
 clear r1 r2 r3 r4 r5 r6 ha hb
 obtain ⟨W0, hW0, hb0, hs0, k0, k1⟩ := box2 w (.cells #[.string n, .string d] 25) (.cells #[.string ⟨#[]⟩, .string ⟨#[]⟩] 25)
 have b0 := Lib.cell_of_heap k0 0
 have b1 := Lib.cell_of_heap k0 1
 simp at b0 b1
 have HB := Lib.hid hb0
 have HK := Lib.hid k1
 clear hb0 k0 k1 hs0
 go_enter Tryz.func189, Tryz.ntmps189
 go_wp2_with fail
 try rw [← hW0]
 refine (HW.out _).mono ?_
 rintro e w1 ⟨rfl, c1⟩
 have HC1 := Lib.hid c1
 clear c1
 go_wp2_with fail
 refine (HR.out _).mono ?_
 rintro e w2 ⟨rfl, c2⟩
 have c12 := HC1.out.trans (c2.mono HC1.out.size)
 have k2 := (c12.block _ (Array.getElem?_eq_some_iff.1 HK.out).1).trans HK.out
 have a0 := Lib.cell_of_heap k2 0
 have a1 := Lib.cell_of_heap k2 1
 simp at a0 a1
 have f0 := Lib.frozen_of_heap k2 0
 have f1 := Lib.frozen_of_heap k2 1
 have HB2 := Lib.hid (HB.out.trans (c12.mono HB.out.size))
 have K2 := Lib.hid k2
 clear c2 c12 k2 HB HC1 HK HR HW
 obtain ⟨q, hq⟩ : ∃ q, fv n d = q := ⟨_, rfl⟩
 rw [hq]
 have HQ := Lib.hid hq
 clear hq
 unfold fenc
 go_wp2_with fail
 have k2 := set2 K2.out (.string (I q.num)) (.string (dn q))
 have m0 := Lib.cell_of_heap k2 0
 have m1 := Lib.cell_of_heap k2 1
 simp at m0 m1
 refine bodyPost_ret (v := .agg #[.string (I q.num), .string (dn q)]) (by simp [results, Tryz.results189, go_sem, m0, m1]) rfl ?_
 exact ⟨by rw [HQ.out]; rfl, (HB2.out.setCell (p := ⟨w.heap.size + 1, 0, none⟩) (by simp) _).setCell (p := ⟨w.heap.size + 1, 1, none⟩) (by simp) _⟩
theorem rfCheck_yes (n d : ByteArray) (ha : n.size ≤ 16) (hb : d.size ≤ 16) (hc : CanQ n d) (w : World) :
 Calls Tryz.prog 159 #[.agg #[.string n, .string d]] w fun e w' => e = .returned (.int .i64 0) ∧ Below w.heap.size w w' := by
 have HB := Lib.hid ((Below.refl _ w).alloc (Nat.le_refl _) (Obj.cells #[.string n, .string d] 25))
 obtain ⟨W0, hW0⟩ : ∃ W0, w.alloc (Obj.cells #[.string n, .string d] 25) = W0 := ⟨_, rfl⟩
 have hk : W0.heap[w.heap.size]? = some (Obj.cells #[.string n, .string d] 25) := by rw [← hW0]; exact heap_alloc_new w _
 rw [hW0] at HB
 have b0 := Lib.cell_of_heap hk 0
 have b1 := Lib.cell_of_heap hk 1
 simp at b0 b1
 have HM := Lib.hid (fun W => rfCanonical_any n d ha hb W)
 clear hk ha hb
 have HC := Lib.hid hc
 clear hc
 go_enter Tryz.func159, Tryz.ntmps159
 go_wp2_with fail
 go_region_held3 (fun W => W.cell? ⟨w.heap.size, 0, none⟩ = some (.string n) ∧ W.cell? ⟨w.heap.size, 1, none⟩ = some (.string d))
  (refine ⟨?_, ?_⟩ <;> first | assumption | (go_simp; done))
  ((go_at_call 189; refine (HM.out W0.drew).mono ?_; rintro e w2 ⟨rfl, hb2⟩; unfold fenc; rw [← HC.out.1, ← HC.out.2]; have d0 := keepc b0 hb2; have d1 := keepc b1 hb2; have HB2 := Lib.hid (HB.out.drew.trans (hb2.mono HB.out.size)); clear hb2))
 all_goals (first | go_wp2_with fail | skip)
 all_goals (go_ret; exact ⟨rfl, HB2.out⟩)
theorem rfCheck_no (n d : ByteArray) (ha : n.size ≤ 16) (hb : d.size ≤ 16) (hc : ¬ CanQ n d) (w : World) :
 Calls Tryz.prog 159 #[.agg #[.string n, .string d]] w fun e w' => e = .returned (.int .i64 1) ∧ Below w.heap.size w w' := by
 have HB := Lib.hid ((Below.refl _ w).alloc (Nat.le_refl _) (Obj.cells #[.string n, .string d] 25))
 obtain ⟨W0, hW0⟩ : ∃ W0, w.alloc (Obj.cells #[.string n, .string d] 25) = W0 := ⟨_, rfl⟩
 have hk : W0.heap[w.heap.size]? = some (Obj.cells #[.string n, .string d] 25) := by rw [← hW0]; exact heap_alloc_new w _
 rw [hW0] at HB
 have b0 := Lib.cell_of_heap hk 0
 have b1 := Lib.cell_of_heap hk 1
 simp at b0 b1
 have HM := Lib.hid (fun W => rfCanonical_any n d ha hb W)
 clear hk ha hb
 have HC : Hid (¬ (n = I (fv n d).num ∧ d = dn (fv n d))) := hc
 clear hc
 by_cases hn : n = I (fv n d).num
 ·have hd' : (d.toList == (dn (fv n d)).toList) = false := neq_toList (fun e => HC.out ⟨hn, e⟩)
  have hn' : (n.toList == (I (fv n d).num).toList) = true := by rw [← hn]; simp
  clear hn HC
  go_enter Tryz.func159, Tryz.ntmps159
  go_wp2_with fail
  go_region_held3 (fun W => W.cell? ⟨w.heap.size, 0, none⟩ = some (.string n) ∧ W.cell? ⟨w.heap.size, 1, none⟩ = some (.string d))
   (refine ⟨?_, ?_⟩ <;> first | assumption | (go_simp; done))
   ((go_at_call 189; refine (HM.out W0.drew).mono ?_; rintro e w2 ⟨rfl, hb2⟩; unfold fenc;  have d0 := keepc b0 hb2; have d1 := keepc b1 hb2; have HB2 := Lib.hid (HB.out.drew.trans (hb2.mono HB.out.size)); clear hb2))
  all_goals (first | go_wp2_with fail | skip)
  all_goals (go_ret; exact ⟨rfl, HB2.out⟩)
 ·have hn' : (n.toList == (I (fv n d).num).toList) = false := neq_toList hn
  clear hn HC
  by_cases hd : d = dn (fv n d)
  ·have hd' : (d.toList == (dn (fv n d)).toList) = true := by rw [← hd]; simp
   clear hd
   go_enter Tryz.func159, Tryz.ntmps159
   go_wp2_with fail
   go_region_held3 (fun W => W.cell? ⟨w.heap.size, 0, none⟩ = some (.string n) ∧ W.cell? ⟨w.heap.size, 1, none⟩ = some (.string d))
    (refine ⟨?_, ?_⟩ <;> first | assumption | (go_simp; done))
    ((go_at_call 189; refine (HM.out W0.drew).mono ?_; rintro e w2 ⟨rfl, hb2⟩; unfold fenc;  have d0 := keepc b0 hb2; have d1 := keepc b1 hb2; have HB2 := Lib.hid (HB.out.drew.trans (hb2.mono HB.out.size)); clear hb2))
   all_goals (first | go_wp2_with fail | skip)
   all_goals (go_ret; exact ⟨rfl, HB2.out⟩)
  ·have hd' : (d.toList == (dn (fv n d)).toList) = false := neq_toList hd
   clear hd
   go_enter Tryz.func159, Tryz.ntmps159
   go_wp2_with fail
   go_region_held3 (fun W => W.cell? ⟨w.heap.size, 0, none⟩ = some (.string n) ∧ W.cell? ⟨w.heap.size, 1, none⟩ = some (.string d))
    (refine ⟨?_, ?_⟩ <;> first | assumption | (go_simp; done))
    ((go_at_call 189; refine (HM.out W0.drew).mono ?_; rintro e w2 ⟨rfl, hb2⟩; unfold fenc;  have d0 := keepc b0 hb2; have d1 := keepc b1 hb2; have HB2 := Lib.hid (HB.out.drew.trans (hb2.mono HB.out.size)); clear hb2))
   all_goals (first | go_wp2_with fail | skip)
   all_goals (go_ret; exact ⟨rfl, HB2.out⟩)
end Go.Proofs.YtcnmoobojdopgaaGreatDoor
namespace Go.Proofs.YtcnmoobojdopgaaGreatDoor
open Go.RowKit Tr Go.Shelf
theorem raw_small (n d : ByteArray) (ha : n.size ≤ 100) (hb : d.size ≤ 100) : (rawN n d).size ≤ 200 ∧ (rawD d).size ≤ 200 := by
 have hn : (vl n).natAbs < 10 ^ 100 := Nat.lt_of_lt_of_le (vl_lt n) (pow_mono ha)
 have hd : (vl d).natAbs < 10 ^ 100 := Nat.lt_of_lt_of_le (vl_lt d) (pow_mono hb)
 have z1 : (I (-vl n)).size ≤ 101 := I_size_le (by rw [Int.natAbs_neg]; exact hn)
 have z2 : (I (-vl d)).size ≤ 101 := I_size_le (by rw [Int.natAbs_neg]; exact hd)
 have z : one1.size = 1 := rfl
 unfold rawN rawD
 constructor
 ·split <;> omega
 ·split
  ·omega
  ·split <;> omega
theorem rfCompare_any (n d n' d' : ByteArray) (ha : n.size ≤ 100) (hb : d.size ≤ 100) (ha' : n'.size ≤ 100) (hb' : d'.size ≤ 100) (w : World) :
 Calls Tryz.prog 161 #[.agg #[.string n, .string d], .agg #[.string n', .string d']] w fun e w' => e = .returned (.int .i64 (cmpI (vl (rawN n d) * vl (rawD d')) (vl (rawN n' d') * vl (rawD d)))) ∧ Below w.heap.size w w' := by
 have r := raw_small n d ha hb
 have r' := raw_small n' d' ha' hb'
 have H1 := Lib.hid (fun W => rRaw_any n d (by omega) (by omega) W)
 have H2 := Lib.hid (fun W => rRaw_any n' d' (by omega) (by omega) W)
 have H3 := Lib.hid (fun W => rMul_any (rawN n d) (rawD d') (by omega) (by omega) W)
 have H4 := Lib.hid (fun W => rMul_any (rawN n' d') (rawD d) (by omega) (by omega) W)
 have hs1 : (I (vl (rawN n d) * vl (rawD d'))).size ≤ 1000000 := by
  have := I_size_le (mul_lt_pow (vl_lt (rawN n d)) (vl_lt (rawD d'))); omega
 have hs2 : (I (vl (rawN n' d') * vl (rawD d))).size ≤ 1000000 := by
  have := I_size_le (mul_lt_pow (vl_lt (rawN n' d')) (vl_lt (rawD d))); omega
 have H5 := fun W => rCompare_any _ _ hs1 hs2 W
 rw [vl_I, vl_I] at H5
 have H5 := Lib.hid H5
 clear hs1 hs2 r r' ha hb ha' hb'
 obtain ⟨W0, hW0, hb0, hs0, k0, k1⟩ := box2 w (.cells #[.string n, .string d] 25) (.cells #[.string n', .string d'] 25)
 have a0 := Lib.cell_of_heap k0 0
 have a1 := Lib.cell_of_heap k0 1
 have b0 := Lib.cell_of_heap k1 0
 have b1 := Lib.cell_of_heap k1 1
 simp at a0 a1 b0 b1
 have HB := Lib.hid hb0
 have HZ := Lib.hid hs0
 clear hb0 k0 k1 hs0
 go_enter Tryz.func161, Tryz.ntmps161
 go_wp2_with fail
 try rw [← hW0]
 refine (H1.out _).mono ?_
 rintro e w1 ⟨rfl, c1⟩
 have e0 := (c1.cell (cell_lt b0)).trans b0
 have e1 := (c1.cell (cell_lt b1)).trans b1
 have C1 := Lib.hid (HB.out.trans (c1.mono HB.out.size))
 clear c1 a0 a1 b0 b1 HB H1 hW0
 go_wp2_with fail
 refine (H2.out _).mono ?_
 rintro e w2 ⟨rfl, c2⟩
 have C2 := Lib.hid (C1.out.trans (c2.mono C1.out.size))
 clear c2 e0 e1 C1 H2
 go_wp2_with fail
 refine (H3.out _).mono ?_
 rintro e w3 ⟨rfl, c3⟩
 have C3 := Lib.hid (C2.out.trans (c3.mono C2.out.size))
 clear c3 C2 H3
 go_wp2_with fail
 refine (H4.out _).mono ?_
 rintro e w4 ⟨rfl, c4⟩
 have C4 := Lib.hid (C3.out.trans (c4.mono C3.out.size))
 clear c4 C3 H4
 go_wp2_with fail
 refine (H5.out _).mono ?_
 rintro e w5 ⟨rfl, rfl⟩
 go_wp2_with fail
 go_ret
 exact ⟨rfl, C4.out⟩
theorem cmpI_raw {n d : ByteArray} (hc : CanQ n d) : cmpI (vl (rawN n d) * vl (rawD ⟨#[]⟩)) (vl (rawN ⟨#[]⟩ ⟨#[]⟩) * vl (rawD d)) = cmpI (vl n) 0 := by
 have e0 : vl (⟨#[]⟩ : ByteArray) = 0 := by rw [zero_eq, vl_I]
 have e1 : vl one1 = 1 := by rw [one1_eq, vl_I]
 have hd : ¬ vl d < 0 := by
  rw [hc.2]
  unfold dn
  split
  ·rw [e0]; omega
  ·rw [vl_I]; omega
 have r1 : rawN n d = n := by unfold rawN; rw [if_neg hd]
 have r2 : rawD ⟨#[]⟩ = one1 := by unfold rawD; rw [if_pos e0]
 have r3 : rawN ⟨#[]⟩ ⟨#[]⟩ = ⟨#[]⟩ := by unfold rawN; rw [if_neg (by omega)]
 rw [r1, r2, r3, e0, e1, Int.mul_one, Int.zero_mul]
theorem rfSign_any (n d : ByteArray) (ha : n.size ≤ 100) (hb : d.size ≤ 100) (hc : CanQ n d) (w : World) :
 Calls Tryz.prog 97 #[.agg #[.string n, .string d]] w fun e w' => e = .returned (.int .i64 (cmpI (vl n) 0)) ∧ Below w.heap.size w w' := by
 have H := fun W => rfCompare_any n d ⟨#[]⟩ ⟨#[]⟩ ha hb (show 0 ≤ 100 by omega) (show 0 ≤ 100 by omega) W
 rw [cmpI_raw hc] at H
 have H := Lib.hid H
 have HB := Lib.hid ((Below.refl _ w).alloc (Nat.le_refl _) (Obj.cells #[.string n, .string d] 25))
 obtain ⟨W0, hW0⟩ : ∃ W0, w.alloc (Obj.cells #[.string n, .string d] 25) = W0 := ⟨_, rfl⟩
 have hk : W0.heap[w.heap.size]? = some (Obj.cells #[.string n, .string d] 25) := by rw [← hW0]; exact heap_alloc_new w _
 rw [hW0] at HB
 have c0 := Lib.cell_of_heap hk 0
 have c1 := Lib.cell_of_heap hk 1
 simp at c0 c1
 clear hk hc ha hb
 go_enter Tryz.func97, Tryz.ntmps97
 go_wp2_with fail
 refine (H.out _).mono ?_
 rintro e w1 ⟨rfl, h1⟩
 have HB1 := Lib.hid (HB.out.trans (h1.mono HB.out.size))
 clear h1
 go_wp2_with fail
 go_ret
 exact ⟨rfl, HB1.out⟩
def two (n : Nat) : List UInt8 := List.replicate (2 - (Lib.itoa (n : Int)).length) 48 ++ Lib.itoa (n : Int)
end Go.Proofs.YtcnmoobojdopgaaGreatDoor
namespace Tr
def pv (g : Rat) : List Rat → Rat
 | [] => 0
 | x :: r => (x + pv g r) / g
def pvB (b g : Rat) : List Rat → Rat
 | [] => 0
 | x :: r => (x + pv g r) / b
theorem div_nonneg' {a b : Rat} (ha : 0 ≤ a) (hb : 0 < b) : 0 ≤ a / b := by
 rw [Rat.div_def]
 exact Rat.mul_nonneg ha (Rat.le_of_lt (Rat.inv_pos.2 hb))
theorem pv_scale (k g : Rat) : ∀ l : List Rat, pv g (l.map (k * ·)) = k * pv g l
 | [] => by show (0 : Rat) = k * 0; grind
 | x :: r => by
   rw [List.map_cons, pv, pv_scale k g r, pv, Rat.div_def, Rat.div_def]
   grind
theorem pvB_scale (k b g : Rat) : ∀ l : List Rat, pvB b g (l.map (k * ·)) = k * pvB b g l
 | [] => by show (0 : Rat) = k * 0; grind
 | x :: r => by
   rw [List.map_cons, pvB, pv_scale k g r, pvB, Rat.div_def, Rat.div_def]
   grind
theorem pv_par {f c g : Rat} (hf : f ≠ 0) (hg : g = 1 + c / f) (hg0 : g ≠ 0) : ∀ n : Nat, pv g (List.replicate n c ++ [c + f]) = f
 | 0 => by
   show (c + f + 0) / g = f
   have e : c + f + 0 = f * g := by
    rw [hg, Rat.mul_add, Rat.mul_one, Rat.div_def]
    have : f * (c * f⁻¹) = c * (f * f⁻¹) := by grind
    rw [this, Rat.mul_inv_cancel _ hf]
    grind
   rw [e, Rat.div_def, Rat.mul_assoc, Rat.mul_inv_cancel _ hg0, Rat.mul_one]
 | n + 1 => by
   rw [List.replicate_succ, List.cons_append, pv, pv_par hf hg hg0 n]
   have e : c + f = f * g := by
    rw [hg, Rat.mul_add, Rat.mul_one, Rat.div_def]
    have : f * (c * f⁻¹) = c * (f * f⁻¹) := by grind
    rw [this, Rat.mul_inv_cancel _ hf]
    grind
   rw [e, Rat.div_def, Rat.mul_assoc, Rat.mul_inv_cancel _ hg0, Rat.mul_one]
end Tr
