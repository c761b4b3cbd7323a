/-
  Fractions: the walks of the four operations.
  The walks of trancheref02.one, zero, exact, Raw, reduced (short numbers).
  The walk of trancheref02.reduced (short numbers).
-/
import Derived.Test.YtdnmpgoigagjmaaGreatDoorA13
import Derived.Test.YtdnmpgoigagjmaaGreatDoorA15
import Derived.Deep.QuietTactic
import Derived.Deep.RegionHeld3
set_option linter.unusedVariables false
set_option linter.unusedSimpArgs false
namespace Go.Proofs.YtdnmpgoigagjmaaGreatDoor
open Go.RowKit Tr Go.Shelf
def MulBox (w : World) (B : Nat) : Prop := w.heap[B]? = some (.cells #[.func (.func 41) #[] #[]] 44 (0, 0))
theorem MulBox.below {w w' : World} {B : Nat} (h : MulBox w B) (hb : Below w.heap.size w w') : MulBox w' B := (hb.block B (Array.getElem?_eq_some_iff.1 h).1).trans h
theorem MulBox.drew {w : World} {B : Nat} (h : MulBox w B) : MulBox w.drew B := h
theorem MulBox.cell {w : World} {B : Nat} (h : MulBox w B) : w.cell? ⟨B, 0, none⟩ = some (.func (.func 41) #[] #[]) := by simp [World.cell?, show w.heap[B]? = _ from h]
def OpPost (w : World) (x y : Int) (e : Ending) (w' : World) : Prop := e = .returned (.tuple #[.string (I x), .string (I y)]) ∧ Below w.heap.size w w'
theorem mul_size {a b : ByteArray} {k m : Nat} (ha : a.size ≤ k) (hb : b.size ≤ m) : (I (vl a * vl b)).size ≤ k + m + 1 := by
 refine I_size_le ?_
 rw [Int.natAbs_mul, Nat.pow_add]
 refine Nat.lt_of_lt_of_le (Nat.mul_lt_mul_of_lt_of_le (vl_lt a) (Nat.le_of_lt (vl_lt b)) (Nat.pow_pos (by omega))) ?_
 exact Nat.mul_le_mul (Nat.pow_le_pow_right (by omega) ha) (Nat.pow_le_pow_right (by omega) hb)
set_option maxHeartbeats 2000000 in
theorem op3_any (a b c d : ByteArray) (w : World) (B : Nat) (ha : a.size ≤ 1000000) (hb : b.size ≤ 1000000) (hc : c.size ≤ 1000000) (hd : d.size ≤ 1000000) (hB : MulBox w B) (ht : Tabs w) :
 Calls Tryz.prog 185 #[.string a, .string b, .string c, .string d, .pointer (some ⟨B, 0, none⟩)] w (OpPost w (vl a * vl c) (vl b * vl d)) := by
 have HT := Lib.hid ht
 have HB := Lib.hid hB
 have k0 := hB.cell
 clear ht hB
 go_enter Tryz.func185, Tryz.ntmps185
 go_wp2_with fail
 go_region_held3 (fun W => W.cell? ⟨B, 0, none⟩ = some (.func (.func 41) #[] #[]))
  (first | assumption | (go_simp; done))
  (first
    | (go_at_call_of 41 [Value.string a, Value.string c]; refine (Mul_any a c w.drew (by omega) (by omega) (HT.out.below (Below.refl _ w).drew)).mono ?_; rintro e w1 ⟨rfl, hb1⟩; have k1 := (HB.out.drew.below hb1).cell; have B1 := (Below.refl w.heap.size w).drew.trans (hb1.mono (Nat.le_refl _)); clear hb1)
    | (go_at_call_of 41 [Value.string b, Value.string d]; refine (Mul_any b d w1 (by omega) (by omega) (HT.out.below B1)).mono ?_; rintro e w2 ⟨rfl, hb2⟩; have B2 := B1.trans (hb2.mono B1.size); have k2 := (HB.out.below B2).cell; clear hb2))
 go_wp2_with fail
 go_ret2
 exact ⟨rfl, B2⟩
set_option maxHeartbeats 2000000 in
theorem op4_any (a b c d : ByteArray) (w : World) (B : Nat) (ha : a.size ≤ 1000000) (hb : b.size ≤ 1000000) (hc : c.size ≤ 1000000) (hd : d.size ≤ 1000000) (hB : MulBox w B) (ht : Tabs w) :
 Calls Tryz.prog 186 #[.string a, .string b, .string c, .string d, .pointer (some ⟨B, 0, none⟩)] w (OpPost w (vl a * vl d) (vl b * vl c)) := by
 have HT := Lib.hid ht
 have HB := Lib.hid hB
 have k0 := hB.cell
 clear ht hB
 go_enter Tryz.func186, Tryz.ntmps186
 go_wp2_with fail
 go_region_held3 (fun W => W.cell? ⟨B, 0, none⟩ = some (.func (.func 41) #[] #[]))
  (first | assumption | (go_simp; done))
  (first
    | (go_at_call_of 41 [Value.string a, Value.string d]; refine (Mul_any a d w.drew (by omega) (by omega) (HT.out.below (Below.refl _ w).drew)).mono ?_; rintro e w1 ⟨rfl, hb1⟩; have k1 := (HB.out.drew.below hb1).cell; have B1 := (Below.refl w.heap.size w).drew.trans (hb1.mono (Nat.le_refl _)); clear hb1)
    | (go_at_call_of 41 [Value.string b, Value.string c]; refine (Mul_any b c w1 (by omega) (by omega) (HT.out.below B1)).mono ?_; rintro e w2 ⟨rfl, hb2⟩; have B2 := B1.trans (hb2.mono B1.size); have k2 := (HB.out.below B2).cell; clear hb2))
 go_wp2_with fail
 go_ret2
 exact ⟨rfl, B2⟩
set_option maxHeartbeats 2000000 in
theorem op1_any (a b c d : ByteArray) (w : World) (B : Nat) (ha : a.size ≤ 1000000) (hb : b.size ≤ 1000000) (hc : c.size ≤ 1000000) (hd : d.size ≤ 1000000) (hB : MulBox w B) (ht : Tabs w) :
 Calls Tryz.prog 183 #[.string a, .string b, .string c, .string d, .pointer (some ⟨B, 0, none⟩)] w (OpPost w (vl a * vl d + vl c * vl b) (vl b * vl d)) := by
 have HT := Lib.hid ht
 have HB := Lib.hid hB
 have k0 := hB.cell
 clear ht hB
 go_enter Tryz.func183, Tryz.ntmps183
 go_wp2_with fail
 go_region_held3 (fun W => W.cell? ⟨B, 0, none⟩ = some (.func (.func 41) #[] #[]))
  (first | assumption | (go_simp; done))
  (first
    | (go_at_call_of 41 [Value.string a, Value.string d]; refine (Mul_any a d w.drew (by omega) (by omega) (HT.out.below (Below.refl _ w).drew)).mono ?_; rintro e w1 ⟨rfl, hb1⟩; have k1 := (HB.out.drew.below hb1).cell; have B1 := (Below.refl w.heap.size w).drew.trans (hb1.mono (Nat.le_refl _)); clear hb1)
    | (go_at_call_of 41 [Value.string c, Value.string b]; refine (Mul_any c b w1 (by omega) (by omega) (HT.out.below B1)).mono ?_; rintro e w2 ⟨rfl, hb2⟩; have B2 := B1.trans (hb2.mono B1.size); have k2 := (HB.out.below B2).cell; clear hb2)
    | (go_at_call_of 23 [Value.string (I (vl a * vl d)), Value.string (I (vl c * vl b))]; refine (Add_any (I (vl a * vl d)) (I (vl c * vl b)) w2 (Nat.le_trans (mul_size (k := 1000000) (m := 1000000) (by omega) (by omega)) (by omega)) (Nat.le_trans (mul_size (k := 1000000) (m := 1000000) (by omega) (by omega)) (by omega)) (HT.out.below B2)).mono ?_; rintro e w3 ⟨rfl, hb3⟩; have B3 := B2.trans (hb3.mono B2.size); have k3 := (HB.out.below B3).cell; clear hb3)
    | (go_at_call_of 41 [Value.string b, Value.string d]; refine (Mul_any b d w3 (by omega) (by omega) (HT.out.below B3)).mono ?_; rintro e w4 ⟨rfl, hb4⟩; have B4 := B3.trans (hb4.mono B3.size); have k4 := (HB.out.below B4).cell; clear hb4))
 go_wp2_with fail
 go_ret2
 refine ⟨?_, B4⟩
 rw [vl_I, vl_I]; rfl
set_option maxHeartbeats 2000000 in
theorem op2_any (a b c d : ByteArray) (w : World) (B : Nat) (ha : a.size ≤ 1000000) (hb : b.size ≤ 1000000) (hc : c.size ≤ 1000000) (hd : d.size ≤ 1000000) (hB : MulBox w B) (ht : Tabs w) :
 Calls Tryz.prog 184 #[.string a, .string b, .string c, .string d, .pointer (some ⟨B, 0, none⟩)] w (OpPost w (vl a * vl d - vl c * vl b) (vl b * vl d)) := by
 have HT := Lib.hid ht
 have HB := Lib.hid hB
 have k0 := hB.cell
 clear ht hB
 go_enter Tryz.func184, Tryz.ntmps184
 go_wp2_with fail
 go_region_held3 (fun W => W.cell? ⟨B, 0, none⟩ = some (.func (.func 41) #[] #[]))
  (first | assumption | (go_simp; done))
  (first
    | (go_at_call_of 41 [Value.string a, Value.string d]; refine (Mul_any a d w.drew (by omega) (by omega) (HT.out.below (Below.refl _ w).drew)).mono ?_; rintro e w1 ⟨rfl, hb1⟩; have k1 := (HB.out.drew.below hb1).cell; have B1 := (Below.refl w.heap.size w).drew.trans (hb1.mono (Nat.le_refl _)); clear hb1)
    | (go_at_call_of 41 [Value.string c, Value.string b]; refine (Mul_any c b w1 (by omega) (by omega) (HT.out.below B1)).mono ?_; rintro e w2 ⟨rfl, hb2⟩; have B2 := B1.trans (hb2.mono B1.size); have k2 := (HB.out.below B2).cell; clear hb2)
    | (go_at_call_of 73 [Value.string (I (vl a * vl d)), Value.string (I (vl c * vl b))]; refine (Sub_any (I (vl a * vl d)) (I (vl c * vl b)) w2 (Nat.le_trans (mul_size (k := 1000000) (m := 1000000) (by omega) (by omega)) (by omega)) (Nat.le_trans (mul_size (k := 1000000) (m := 1000000) (by omega) (by omega)) (by omega)) (HT.out.below B2)).mono ?_; rintro e w3 ⟨rfl, hb3⟩; have B3 := B2.trans (hb3.mono B2.size); have k3 := (HB.out.below B3).cell; clear hb3)
    | (go_at_call_of 41 [Value.string b, Value.string d]; refine (Mul_any b d w3 (by omega) (by omega) (HT.out.below B3)).mono ?_; rintro e w4 ⟨rfl, hb4⟩; have B4 := B3.trans (hb4.mono B3.size); have k4 := (HB.out.below B4).cell; clear hb4))
 go_wp2_with fail
 go_ret2
 refine ⟨?_, B4⟩
 rw [vl_I, vl_I]; rfl
end Go.Proofs.YtdnmpgoigagjmaaGreatDoor
namespace Go.Proofs.YtdnmpgoigagjmaaGreatDoor
open Go.RowKit Tr
theorem q_same {P : Program} {f : FuncId} {args : Array Value} {w : World} {n : Nat} {v : Value}
 (h : Calls P f args (w.drewN n) fun e w' => e = .returned v ∧ w.drewN n = w') : Calls P f args (w.drewN n) fun e w'' => e = .returned v ∧ ∃ m, w'' = w.drewN m :=
 Calls.quiet_of_same (h.mono fun _ _ ⟨a, b⟩ => ⟨a, b.symm⟩)
theorem rone_any (w : World) : Calls Tryz.prog 290 #[] w fun e w' => e = .returned (.string one1) ∧ w = w' := by
 have HC := Lib.hid (rOf_any 1 (by decide) w)
 go_enter Tryz.func290, Tryz.ntmps290
 go_wp2_with fail
 refine HC.out.mono ?_
 rintro e w1 ⟨rfl, rfl⟩
 go_wp2_with fail
 go_ret
 exact ⟨by rw [one1_eq]; rfl, rfl⟩
theorem rzero_any (a : ByteArray) (ha : a.size ≤ 1000000) (w : World) : Calls Tryz.prog 232 #[.string a] w fun e w' => e = .returned (.bool (vl a == 0)) ∧ w = w' := by
 have HC := Lib.hid (rCompare_any a ⟨#[]⟩ ha (by decide) w)
 have HR : Hid ((cmpI (vl a) (vl ⟨#[]⟩) == 0) = (vl a == 0)) := by
  show _ = _
  rw [Bool.eq_iff_iff, beq_iff_eq, beq_iff_eq, cmpI_eq]; rfl
 clear ha
 go_enter Tryz.func232, Tryz.ntmps232
 go_wp2_with fail
 refine HC.out.mono ?_
 rintro e w1 ⟨rfl, rfl⟩
 go_wp2_with fail
 go_ret
 exact ⟨by rw [← HR.out]; rfl, rfl⟩
theorem rexact_short (a b : ByteArray) (ha : a.size ≤ 1000000) (hb : b.size ≤ 1000000) (hx : (vl a).natAbs < 100000000000000000) (hy : (vl b).natAbs < 100000000000000000) (hp : 0 < vl b) (w : World) :
 Calls Tryz.prog 292 #[.string a, .string b] w fun e w' => e = .returned (.string (I (vl a / vl b))) ∧ Below w.heap.size w w' := by
 have HC := Lib.hid (rDiv_short a b ha hb hx hy hp w)
 clear ha hb hx hy hp
 go_enter Tryz.func292, Tryz.ntmps292
 go_wp2_with fail
 refine HC.out.mono ?_
 rintro e w1 ⟨rfl, b1⟩
 have HB := Lib.hid b1
 clear b1
 go_wp2_with fail
 go_ret
 exact ⟨rfl, HB.out⟩
def rawN (n d : ByteArray) : ByteArray := if vl d < 0 then I (-vl n) else n
def rawD (d : ByteArray) : ByteArray := if vl d = 0 then one1 else if vl d < 0 then I (-vl d) else d
set_option maxHeartbeats 4000000 in
theorem rRaw_any (n d : ByteArray) (ha : n.size ≤ 1000000) (hb : d.size ≤ 1000000) (w : World) :
 Calls Tryz.prog 265 #[.agg #[.string n, .string d]] w fun e w' => e = .returned (.tuple #[.string (rawN n d), .string (rawD d)]) ∧ Below w.heap.size w w' := by
 have HB := Lib.hid ((Below.refl _ w).alloc (Nat.le_refl _) (Obj.cells #[.string n, .string d] 55))
 obtain ⟨W0, hW0⟩ : ∃ W0, w.alloc (Obj.cells #[.string n, .string d] 55) = W0 := ⟨_, rfl⟩
 have hk : W0.heap[w.heap.size]? = some (Obj.cells #[.string n, .string d] 55) := by rw [← hW0]; exact heap_alloc_new w _
 have c0 := Lib.cell_of_heap hk 0
 have c1 := Lib.cell_of_heap hk 1
 simp at c0 c1
 rw [hW0] at HB
 have HZ := Lib.hid (rzero_any d hb)
 have HC := Lib.hid (rCompare_any d ⟨#[]⟩ hb (by decide))
 have HN1 := Lib.hid (rNeg_any n ha)
 have HN2 := Lib.hid (rNeg_any d hb)
 clear hk ha hb
 go_enter Tryz.func265, Tryz.ntmps265
 go_wp2_with fail
 refine (HZ.out _).mono ?_
 rintro e w1 ⟨rfl, rfl⟩
 rcases Int.lt_trichotomy (vl d) 0 with h | h | h
 ·have h1 : (vl d == 0) = false := by rw [beq_eq_false_iff_ne]; omega
  have h2 : cmpI (vl d) (vl ⟨#[]⟩) = -1 := by
   rw [show vl ⟨#[]⟩ = 0 from rfl]; unfold cmpI; rw [if_pos h]
  rw [h2] at HC
  have HR : Hid (rawN n d = I (-vl n) ∧ rawD d = I (-vl d)) := ⟨by unfold rawN; rw [if_pos h], by unfold rawD; rw [if_neg (by omega), if_pos h]⟩
  clear h h2
  go_wp2_with fail
  refine (HC.out _).mono ?_
  rintro e w1 ⟨rfl, rfl⟩
  go_wp2_with fail
  go_quiet ((first | (go_at_call_of 145 [Value.string n]; exact q_same (HN1.out _)) | (go_at_call_of 145 [Value.string d]; exact q_same (HN2.out _))))
  go_wp2_with fail
  go_ret2
  exact ⟨by rw [HR.out.1, HR.out.2]; rfl, below_drewN HB.out _⟩
 ·have h1 : (vl d == 0) = true := by rw [beq_iff_eq]; exact h
  have HR : Hid (rawN n d = n ∧ rawD d = one1) := ⟨by unfold rawN; rw [if_neg (by omega)], by unfold rawD; rw [if_pos h]⟩
  clear h
  go_wp2_with fail
  go_quiet ((go_at_call 290; exact q_same (rone_any _)))
  go_wp2_with fail
  go_ret2
  exact ⟨by rw [HR.out.1, HR.out.2]; rfl, below_drewN HB.out _⟩
 ·have h1 : (vl d == 0) = false := by rw [beq_eq_false_iff_ne]; omega
  have h2 : cmpI (vl d) (vl ⟨#[]⟩) = 1 := by
   rw [show vl ⟨#[]⟩ = 0 from rfl]; unfold cmpI; rw [if_neg (by omega), if_neg (by omega)]
  rw [h2] at HC
  have HR : Hid (rawN n d = n ∧ rawD d = d) := ⟨by unfold rawN; rw [if_neg (by omega)], by unfold rawD; rw [if_neg (by omega), if_neg (by omega)]⟩
  clear h h2
  go_wp2_with fail
  refine (HC.out _).mono ?_
  rintro e w1 ⟨rfl, rfl⟩
  go_wp2_with fail
  go_quiet (fail)
  go_wp2_with fail
  go_ret2
  exact ⟨by rw [HR.out.1, HR.out.2]; rfl, below_drewN HB.out _⟩
end Go.Proofs.YtdnmpgoigagjmaaGreatDoor
namespace Go.Proofs.YtdnmpgoigagjmaaGreatDoor
open Go.RowKit Tr
set_option maxHeartbeats 4000000 in
theorem rreduced_short (n d : ByteArray) (ha : n.size ≤ 1000000) (hb : d.size ≤ 1000000) (hx : (vl n).natAbs < 100000000000000000) (hy : (vl d).natAbs < 100000000000000000) (hp : 0 < vl d) (w : World) :
 Calls Tryz.prog 266 #[.string n, .string d] w fun e w' => e = .returned (fenc (Rat.divInt (vl n) (vl d))) ∧ Below w.heap.size w w' := by
 have HZ := Lib.hid (rzero_any n ha)
 have HB := Lib.hid ((Below.refl _ w).alloc (Nat.le_refl _) (Obj.cells #[.string ⟨#[]⟩, .string ⟨#[]⟩] 55))
 by_cases h0 : vl n = 0
 ·rw [h0] at HZ
  have HR : Hid (fenc (Rat.divInt (vl n) (vl d)) = .agg #[.string ⟨#[]⟩, .string ⟨#[]⟩]) := by
   show _ = _
   rw [h0, Rat.zero_divInt]; kernel_rfl
  clear h0 ha hb hx hy hp
  obtain ⟨W0, hW0⟩ : ∃ W0, w.alloc (Obj.cells #[.string ⟨#[]⟩, .string ⟨#[]⟩] 55) = W0 := ⟨_, rfl⟩
  have k1 : W0.heap[w.heap.size]? = some (Obj.cells #[.string ⟨#[]⟩, .string ⟨#[]⟩] 55) := by rw [← hW0]; exact heap_alloc_new w _
  have a0 := Lib.cell_of_heap k1 0
  have a1 := Lib.cell_of_heap k1 1
  simp at a0 a1
  have f0 := Lib.frozen_of_heap k1 0
  have f1 := Lib.frozen_of_heap k1 1
  have K1 := Lib.hid k1
  rw [hW0] at HB
  clear k1
  go_enter Tryz.func266, Tryz.ntmps266
  go_wp2_with fail
  try rw [hW0]
  refine (HZ.out _).mono ?_
  rintro e w1 ⟨rfl, rfl⟩
  go_wp2_with fail
  have k2 := set2 K1.out (.string ⟨#[]⟩) (.string ⟨#[]⟩)
  have m0 := Lib.cell_of_heap k2 0
  have m1 := Lib.cell_of_heap k2 1
  simp at m0 m1
  refine bodyPost_ret (v := .agg #[.string ⟨#[]⟩, .string ⟨#[]⟩]) (by simp [results, Tryz.results266, go_sem, m0, m1]) rfl ?_
  exact ⟨by rw [HR.out], (HB.out.setCell (p := ⟨w.heap.size, 0, none⟩) (Nat.le_refl _) _).setCell (p := ⟨w.heap.size, 1, none⟩) (Nat.le_refl _) _⟩
 have hz : (vl n == 0) = false := by rw [beq_eq_false_iff_ne]; exact h0
 have HG := Lib.hid (rGcd_short n d ha hb hx hy)
 have hgp : 0 < Int.gcd (vl n) (vl d) := Int.gcd_pos_of_ne_zero_right _ (by omega)
 have hgl : Int.gcd (vl n) (vl d) ≤ (vl d).natAbs := Nat.le_of_dvd (by omega) (Int.gcd_dvd_natAbs_right _ _)
 have gs : (I ((Int.gcd (vl n) (vl d) : Nat) : Int)).size ≤ 1000000 := Nat.le_trans (I_size_le (k := 17) (by rw [Int.natAbs_natCast]; omega)) (by decide)
 have e1 : vl n / ((Int.gcd (vl n) (vl d) : Nat) : Int) = (Rat.divInt (vl n) (vl d)).num := by rw [← red_num hp, dq_pos (by omega)]
 have e2 : vl d / ((Int.gcd (vl n) (vl d) : Nat) : Int) = ((Rat.divInt (vl n) (vl d)).den : Int) := by rw [← red_den hp, dq_pos (by omega)]
 have HE1 := fun W => rexact_short n (I ((Int.gcd (vl n) (vl d) : Nat) : Int)) ha gs hx (by rw [vl_I, Int.natAbs_natCast]; omega) (by rw [vl_I]; omega) W
 have HE2 := fun W => rexact_short d (I ((Int.gcd (vl n) (vl d) : Nat) : Int)) hb gs hy (by rw [vl_I, Int.natAbs_natCast]; omega) (by rw [vl_I]; omega) W
 rw [vl_I, e1] at HE1
 rw [vl_I, e2] at HE2
 have hdl : ((Rat.divInt (vl n) (vl d)).den : Int).natAbs < 10 ^ 17 := by
  rw [← e2, Int.natAbs_ediv_of_nonneg (by omega)]
  exact Nat.lt_of_le_of_lt (Nat.div_le_self _ _) (by omega)
 have HE1 := Lib.hid HE1
 have HE2 := Lib.hid HE2
 change Hid (∀ w, Calls Tryz.prog 291 #[.string n, .string d] w fun e w' => e = .returned (.string (I ((Int.gcd (vl n) (vl d) : Nat) : Int))) ∧ Below w.heap.size w w') at HG
 clear ha hb hx hy hp h0 hgp hgl gs e1 e2
 generalize Int.gcd (vl n) (vl d) = g at *
 generalize Rat.divInt (vl n) (vl d) = q at *
 have zd : (I (q.den : Int)).size ≤ 1000000 := Nat.le_trans (I_size_le hdl) (by decide)
 have HC := fun W => rCompare_any (I (q.den : Int)) one1 zd (by decide) W
 rw [vl_I, show vl one1 = 1 from by rw [one1_eq, vl_I]] at HC
 clear hdl zd
 obtain ⟨W0, hW0⟩ : ∃ W0, w.alloc (Obj.cells #[.string ⟨#[]⟩, .string ⟨#[]⟩] 55) = W0 := ⟨_, rfl⟩
 have hk : W0.heap[w.heap.size]? = some (Obj.cells #[.string ⟨#[]⟩, .string ⟨#[]⟩] 55) := by rw [← hW0]; exact heap_alloc_new w _
 rw [hW0] at HB
 have HK := Lib.hid hk
 clear hk
 go_enter Tryz.func266, Tryz.ntmps266
 go_wp2_with fail
 try rw [hW0]
 refine (HZ.out _).mono ?_
 rintro e w1 ⟨rfl, rfl⟩
 go_wp2_with fail
 refine (HG.out _).mono ?_
 rintro e w1 ⟨rfl, b1⟩
 have HB1 := Lib.hid b1
 clear b1
 go_wp2_with fail
 refine (HE1.out _).mono ?_
 rintro e w2 ⟨rfl, b2⟩
 have HB2 := Lib.hid b2
 clear b2
 go_wp2_with fail
 refine (HE2.out _).mono ?_
 rintro e w3 ⟨rfl, b3⟩
 have b13 := (HB1.out.trans (HB2.out.mono HB1.out.size)).trans (b3.mono (Nat.le_trans HB1.out.size HB2.out.size))
 have k3 := (b13.block _ (Array.getElem?_eq_some_iff.1 HK.out).1).trans HK.out
 have hlt := (Array.getElem?_eq_some_iff.1 k3).1
 have ne3 : w3.heap.size ≠ w.heap.size := by omega
 have ne4 : w.heap.size ≠ w3.heap.size := by omega
 have HB3 := Lib.hid (HB.out.trans (b13.mono HB.out.size))
 have HW4 := Lib.hid ((Below.refl _ w3).alloc (Nat.le_refl _) (Obj.cells #[.string (I q.num), .string (I (q.den : Int))] 55))
 obtain ⟨W4, hW4⟩ : ∃ W4, w3.alloc (Obj.cells #[.string (I q.num), .string (I (q.den : Int))] 55) = W4 := ⟨_, rfl⟩
 have k4 : W4.heap[w3.heap.size]? = some (Obj.cells #[.string (I q.num), .string (I (q.den : Int))] 55) := by rw [← hW4]; exact heap_alloc_new w3 _
 rw [hW4] at HW4
 have k5 := (HW4.out.block _ hlt).trans k3
 have c0 := Lib.cell_of_heap k4 0
 have c1 := Lib.cell_of_heap k4 1
 have g1 := Lib.frozen_of_heap k4 1
 have a0 := Lib.cell_of_heap k5 0
 have a1 := Lib.cell_of_heap k5 1
 have f0 := Lib.frozen_of_heap k5 0
 have f1 := Lib.frozen_of_heap k5 1
 simp at c0 c1 a0 a1
 have HB4 := Lib.hid (HB3.out.trans (HW4.out.mono (Nat.le_of_lt hlt)))
 have K4 := Lib.hid k4
 have K5 := Lib.hid k5
 clear b3 b13 k3 k4 k5 HB HB1 HB2 HB3 HW4 HK HE1 HE2 HG HZ
 by_cases hq : q.den = 1
 ·rw [show cmpI (q.den : Int) 1 = 0 from cmpI_eq.2 (by omega)] at HC
  have HC := Lib.hid HC
  have HQ := Lib.hid hq
  clear hq
  go_wp2_with fail
  try rw [hW4]
  go_quiet ((first | (go_at_call 290; exact q_same (rone_any _)) | (go_at_call 96; exact q_same (HC.out _))))
  go_wp2_with fail
  have k6 : ((W4.drewN nq).setCell ⟨w3.heap.size, 1, none⟩ (.string ⟨#[]⟩)).heap[w.heap.size]? = some (Obj.cells #[.string ⟨#[]⟩, .string ⟨#[]⟩] 55) := (Below.heap_setCell _ _ _ _ (by simp; omega)).trans (by simpa using K5.out)
  have k2 := set2 k6 (.string (I q.num)) (.string ⟨#[]⟩)
  have m0 := Lib.cell_of_heap k2 0
  have m1 := Lib.cell_of_heap k2 1
  simp at m0 m1
  refine bodyPost_ret (v := .agg #[.string (I q.num), .string ⟨#[]⟩]) (by simp [results, Tryz.results266, go_sem, m0, m1]) rfl ?_
  refine ⟨?_, (Below.setCell (p := ⟨w.heap.size, 0, none⟩) ((below_drewN HB4.out nq).setCell (p := ⟨w3.heap.size, 1, none⟩) (by simp; omega) _) (Nat.le_refl _) _).setCell (p := ⟨w.heap.size, 1, none⟩) (Nat.le_refl _) _⟩
  unfold fenc dn
  rw [if_pos HQ.out]
 ·have hc1 : (cmpI (q.den : Int) 1 == 0) = false := by rw [beq_eq_false_iff_ne, Ne, cmpI_eq]; omega
  have HC := Lib.hid HC
  have HQ := Lib.hid hq
  clear hq
  go_wp2_with fail
  try rw [hW4]
  go_quiet ((first | (go_at_call 290; exact q_same (rone_any _)) | (go_at_call 96; exact q_same (HC.out _))))
  go_wp2_with fail
  have k6 : (W4.drewN nq).heap[w.heap.size]? = some (Obj.cells #[.string ⟨#[]⟩, .string ⟨#[]⟩] 55) := by simpa using K5.out
  have k2 := set2 k6 (.string (I q.num)) (.string (I (q.den : Int)))
  have m0 := Lib.cell_of_heap k2 0
  have m1 := Lib.cell_of_heap k2 1
  simp at m0 m1
  refine bodyPost_ret (v := .agg #[.string (I q.num), .string (I (q.den : Int))]) (by simp [results, Tryz.results266, go_sem, m0, m1]) rfl ?_
  refine ⟨?_, (Below.setCell (p := ⟨w.heap.size, 0, none⟩) (below_drewN HB4.out nq) (Nat.le_refl _) _).setCell (p := ⟨w.heap.size, 1, none⟩) (Nat.le_refl _) _⟩
  unfold fenc dn
  rw [if_neg HQ.out]
end Go.Proofs.YtdnmpgoigagjmaaGreatDoor
