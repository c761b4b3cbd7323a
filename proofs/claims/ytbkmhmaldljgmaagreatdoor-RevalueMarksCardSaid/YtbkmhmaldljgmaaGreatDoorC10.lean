/-
  The walks of integer.Of and integer.Div.
  integer.Small of a number from 0 to 12.
-/
import Derived.Test.YtbkmhmaldljgmaaGreatDoorC08
import Derived.Test.YtbkmhmaldljgmaaGreatDoorC09
set_option linter.unusedVariables false
set_option linter.unusedSimpArgs false
set_option maxHeartbeats 16000000
set_option maxRecDepth 100000
namespace Go.Proofs.YtbkmhmaldljgmaaGreatDoor
open Go.RowKit Tr Go.Shelf
theorem below_grow {w : World} (os : Array Obj) (k : Nat) : Below w.heap.size w (Sort.grow (w.drewN k) os) := by
 refine ⟨rfl, rfl, rfl, by simp [Sort.grow, World.drewN], fun i hi => ?_⟩
 show (w.heap ++ os)[i]? = w.heap[i]?
 exact Array.getElem?_append_left hi
theorem val_dec (n : Nat) : val (dec n) = n := by
 rcases Nat.eq_zero_or_pos n with h | h
 ·subst h; rw [dec_zero]; rfl
 ·rw [dec_pos h, ← can_nat, val_can]
theorem vl_itoa (n : Int) : vl ⟨(Lib.itoa n).toArray⟩ = n := by
 show val (Lib.itoa n) = n
 unfold Lib.itoa
 by_cases h : n < 0
 ·rw [if_pos h]
  have : (45 : UInt8) :: Lib.decDigits n.natAbs = can n := by
   rw [can, if_pos h]; congr 1; exact dec_pos (by omega)
  rw [this, val_can]
 ·rw [if_neg h]
  have := val_dec n.toNat
  unfold dec at this
  rw [this]; omega
theorem nDigits_size (n : Int) (h0 : -9223372036854775808 ≤ n) (h1 : n ≤ 9223372036854775807) : (Lib.itoa n).length ≤ 30 := by
 unfold Lib.itoa
 have e : ∀ m : Nat, m < 18446744073709551616 → (Lib.decDigits m).length ≤ 20 := by
  intro m hm
  rcases Nat.eq_zero_or_pos m with h | h
  ·subst h; have := dec_zero; unfold dec at this; rw [this]; simp
  ·rw [Lib.decDigits_length]; exact nDigits_le h hm
 split
 ·have := e n.natAbs (by omega); simp; omega
 ·have := e n.toNat (by omega); omega
theorem Of_any (n : Int) (h0 : -9223372036854775808 ≤ n) (h1 : n ≤ 9223372036854775807) (w : World) (ht : Tabs w) :
 Calls Tryz.prog 270 #[.int .i64 n] w fun e w' => e = .returned (.string (I n)) ∧ Below w.heap.size w w' := by
 have HI := Lib.hid (Tryz.strconv_Itoa n h0 h1 w ht.pow10)
 have HS := Lib.hid (nDigits_size n h0 h1)
 clear ht
 go_enter Tryz.func270, Tryz.ntmps270
 go_wp2_with fail
 refine HI.out.mono ?_
 rintro e w1 ⟨rfl, k, os, rfl⟩
 go_wp2_with fail
 refine (Canonical_any ⟨(Lib.itoa n).toArray⟩ _ (by have := HS.out; simp [ByteArray.size]; omega)).mono ?_
 rintro e w2 ⟨rfl, hb⟩
 rw [vl_itoa]
 go_wp2_with fail
 go_ret
 exact ⟨rfl, (below_grow os k).trans (hb.mono (below_grow os k).size)⟩
def dq (a b : Int) : Int := if 0 < b then a / b else (-a) / (-b)
def dr (a b : Int) : Int := a - b * dq a b
theorem dq_unique {a b q r : Int} (h : a = b * q + r) (hr : (0 ≤ r ∧ r < b) ∨ (b < r ∧ r ≤ 0)) : q = dq a b ∧ r = dr a b := by
 have hq : q = dq a b := by
  unfold dq
  rcases hr with ⟨h1, h2⟩ | ⟨h1, h2⟩
  ·rw [if_pos (by omega)]
   exact ((Int.ediv_emod_unique (by omega)).2 ⟨by omega, h1, h2⟩).1.symm
  ·rw [if_neg (by omega)]
   refine ((Int.ediv_emod_unique (r := -r) (by omega)).2 ⟨?_, by omega, by omega⟩).1.symm
   rw [h, Int.neg_mul]; omega
 exact ⟨hq, by unfold dr; rw [← hq]; omega⟩
theorem div_same {nb : Bool} {l n Q R : Nat} (h : l = n * Q + R) (hR : R < n) : sg false Q = dq (sg nb l) (sg nb n) ∧ sg nb R = dr (sg nb l) (sg nb n) := by
 apply dq_unique
 ·rw [h]
  cases nb
  ·simp [sg]
  ·simp only [sg, if_true, Bool.false_eq_true, if_false]
   rw [Int.natCast_add, Int.natCast_mul, Int.neg_mul]; omega
 ·cases nb
  ·left; simp [sg]; exact hR
  ·right; simp [sg]; exact hR
theorem div_other {nb : Bool} {l n Q : Nat} (h : l = n * Q) (hn : 0 < n) : sg true Q = dq (sg (!nb) l) (sg nb n) ∧ sg nb 0 = dr (sg (!nb) l) (sg nb n) := by
 apply dq_unique
 ·rw [h]
  cases nb
  ·simp only [sg, Bool.not_false, if_true, Bool.false_eq_true, if_false]
   rw [Int.natCast_mul, Int.mul_neg]; omega
  ·simp only [sg, Bool.not_true, if_true, Bool.false_eq_true, if_false]
   rw [Int.natCast_mul, Int.neg_mul_neg]; omega
 ·cases nb
  ·left; simp [sg]; exact hn
  ·right; simp [sg]; exact hn
theorem div_other' {nb : Bool} {l n Q R : Nat} (h : l = n * Q + R) (hR : R < n) (hp : 0 < R) : sg true (Q + 1) = dq (sg (!nb) l) (sg nb n) ∧ sg nb (n - R) = dr (sg (!nb) l) (sg nb n) := by
 apply dq_unique
 ·rw [h]
  have e : ((n - R : Nat) : Int) = (n : Int) - R := by omega
  have e2 : (n : Int) * ((Q + 1 : Nat) : Int) = n * Q + n := by rw [Int.natCast_add, Int.mul_add]; simp
  cases nb
  ·simp only [sg, Bool.not_false, if_true, Bool.false_eq_true, if_false]
   rw [Int.natCast_add, Int.natCast_mul, Int.mul_neg, e2, e]; omega
  ·simp only [sg, Bool.not_true, if_true, Bool.false_eq_true, if_false]
   rw [Int.natCast_add, Int.natCast_mul, Int.neg_mul_neg, e2, e]; omega
 ·cases nb
  ·left; simp [sg]; omega
  ·right; simp [sg]; omega
theorem Div_any (a b : ByteArray) (w : World) (ha : a.size ≤ 4000000) (hb : b.size ≤ 4000000) (h0 : vl b ≠ 0) (ht : Tabs w) :
 Calls Tryz.prog 161 #[.string a, .string b] w fun e w' => e = .returned (.tuple #[.string (I (dq (vl a) (vl b))), .string (I (dr (vl a) (vl b))), .int .i64 0]) ∧ Below w.heap.size w w' := by
 have H0 := Lib.hid h0
 have HT := Lib.hid ht
 have HLA := Lib.hid (vl_lt a)
 have HLB := Lib.hid (vl_lt b)
 clear h0 ht
 go_enter Tryz.func161, Tryz.ntmps161
 go_wp2_with fail
 refine (read_any a _ (by omega)).mono ?_
 rintro e w1 hr1
 obtain ⟨n1, A1, l1, c1, rfl, h1, hb1⟩ := hr1.num
 clear hr1
 go_wp2_with fail
 refine (read_any b _ (by omega)).mono ?_
 rintro e w2 hr2
 obtain ⟨n2, A2, l2, c2, rfl, h2, hb2⟩ := hr2.num
 clear hr2
 have h1' := h1.below hb2
 have hb12 := hb1.trans (hb2.mono hb1.size)
 have hpos : 0 < mval l2 := by rw [h2.mval]; have := H0.out; omega
 have hl2 : ((l2.length : Int) == 0) = false := by
  rw [beq_eq_false_iff_ne]
  intro e
  have : l2 = [] := List.eq_nil_of_length_eq_zero (by omega)
  rw [this] at hpos; simp [Tr.mval] at hpos
 obtain ⟨W2, hW2, hBW, hz, k0, k1⟩ := box2 w2 (.cells #[.bool n1, .slice A1 l1.length c1] 100) (.cells #[.bool n2, .slice A2 l2.length c2] 100)
 have H1 := Lib.hid (h1'.below hBW)
 have H2 := Lib.hid (h2.below hBW)
 have HB2 := Lib.hid (hb12.trans (hBW.mono hb12.size))
 have HZ := Lib.hid hz
 have K0 := Lib.hid k0
 have K1 := Lib.hid k1
 have a0 := Lib.cell_of_heap K0.out 0
 have a1 := Lib.cell_of_heap K0.out 1
 have b0 := Lib.cell_of_heap K1.out 0
 have b1 := Lib.cell_of_heap K1.out 1
 simp at a0 a1 b0 b1
 have q1 := H1.out.len HLA.out
 have q2 := H2.out.len HLB.out
 have HP := Lib.hid hpos
 clear h1 hb1 h2 hb2 h1' hb12 hBW hz k0 k1 hpos
 go_wp2_with fail
 rw [← hW2]
 clear hW2
 refine (divide_any A1 A2 l1 l2 c1 c2 W2 (by omega) (by omega) H1.out.1 H2.out.1 H1.out.2.1 H2.out.2.1 H1.out.2.2.2 H2.out.2.2.2 HP.out).mono ?_
 rintro e w3 ⟨A3, Q, c3, A4, R, c4, rfl, hQ, g3, g4, hb3⟩
 have d0 : w3.cell? ⟨w2.heap.size, 0, none⟩ = some (.bool n1) := (hb3.cell (by simp [HZ.out])).trans a0
 have d1 : w3.cell? ⟨w2.heap.size, 1, none⟩ = some (.slice A1 l1.length c1) := (hb3.cell (by simp [HZ.out])).trans a1
 have d2 : w3.cell? ⟨w2.heap.size + 1, 0, none⟩ = some (.bool n2) := (hb3.cell (by simp [HZ.out])).trans b0
 have d3 : w3.cell? ⟨w2.heap.size + 1, 1, none⟩ = some (.slice A2 l2.length c2) := (hb3.cell (by simp [HZ.out])).trans b1
 have HQ := Lib.hid hQ
 have G3 := Lib.hid g3
 have G4 := Lib.hid g4
 have HB3 := Lib.hid (HB2.out.trans (hb3.mono HB2.out.size))
 have H23 := Lib.hid (H2.out.below hb3)
 have hw3 : w2.heap.size + 1 < w3.heap.size := by have := hb3.size; have := HZ.out; omega
 have E1 : Hid (vl a = sg n1 (Tr.mval l1)) := H1.out.2.2.1.symm
 have E2 : Hid (vl b = sg n2 (Tr.mval l2)) := H2.out.2.2.1.symm
 have hQl : Q.length ≤ 4000000 := by
  have e1 : Tr.mval Q ≤ Tr.mval l1 := by
   rw [hQ.2.2.2.2.1]
   have : 1 * Tr.mval Q ≤ Tr.mval l2 * Tr.mval Q := Nat.mul_le_mul_right _ HP.out
   omega
  have e2 := len_of_le H1.out.1 hQ.2.1 e1
  omega
 have hRl : R.length ≤ l2.length := len_of_le H2.out.1 hQ.2.2.2.1 (Nat.le_of_lt hQ.2.2.2.2.2)
 clear hQ g3 g4 hb3 a0 a1 b0 b1 H1 H2 HB2 K0 K1 HZ
 by_cases hsame : n1 = n2
 ·subst hsame
  have hxx : (n1 != n1) = false := by simp
  have HV := Lib.hid (div_same (nb := n1) HQ.out.2.2.2.2.1 HQ.out.2.2.2.2.2)
  rw [← E1.out, ← E2.out] at HV
  have N3 : Hid (Nm w3 false A3 Q c3 (dq (vl a) (vl b))) := ⟨HQ.out.1, HQ.out.2.1, HV.out.1, G3.out⟩
  have N4 : Hid (Nm w3 n1 A4 R c4 (dr (vl a) (vl b))) := ⟨HQ.out.2.2.1, HQ.out.2.2.2.1, HV.out.2, G4.out⟩
  clear hl2
  go_wp2_with fail
  go_region_held3 (fun W => W.cell? ⟨w2.heap.size, 0, none⟩ = some (.bool n1) ∧ W.cell? ⟨w2.heap.size, 1, none⟩ = some (.slice A1 l1.length c1) ∧ W.cell? ⟨w2.heap.size + 1, 0, none⟩ = some (.bool n1) ∧ W.cell? ⟨w2.heap.size + 1, 1, none⟩ = some (.slice A2 l2.length c2))
   (refine ⟨?_, ?_, ?_, ?_⟩ <;> first | assumption | (go_simp; done))
   (first
     | (go_at_call_of 50 (Value.agg #[Value.bool false, Value.slice A3 Q.length c3]); refine (text_num false A3 Q c3 _ _ (show Nm w3.drew _ _ _ _ _ from N3.out) (by omega) (HT.out.below HB3.out.drew)).mono ?_; rintro e w5 ⟨rfl, hb5⟩; have g0 := keepc d0 hb5; have g1 := keepc d1 hb5; have g2 := keepc d2 hb5; have g3 := keepc d3 hb5; have hB5 := HB3.out.drew.trans (hb5.mono (by have := HB3.out.size; simpa using this)); have n5 := (show Nm w3.drew _ _ _ _ _ from N4.out).below hb5)
     | (go_at_call_of 50 (Value.agg #[Value.bool n1, Value.slice A4 R.length c4]); refine (text_num n1 A4 R c4 _ _ n5 (by omega) (HT.out.below hB5)).mono ?_; rintro e w6 ⟨rfl, hb6⟩; have i0 := keepc g0 hb6; have i1 := keepc g1 hb6; have i2 := keepc g2 hb6; have i3 := keepc g3 hb6))
  go_wp2_with fail
  go_ret3
  exact ⟨rfl, hB5.trans (hb6.mono hB5.size)⟩
 ·obtain rfl : n1 = !n2 := by cases n1 <;> cases n2 <;> simp_all
  have hxx : ((!n2) != n2) = true := by cases n2 <;> rfl
  clear hsame hl2
  rcases Nat.eq_zero_or_pos R.length with hR0 | hR0
  ·obtain rfl : R = [] := List.eq_nil_of_length_eq_zero hR0
   have HV := Lib.hid (div_other (nb := n2) (show Tr.mval l1 = Tr.mval l2 * Tr.mval Q by have := HQ.out.2.2.2.2.1; simpa [Tr.mval] using this) HP.out)
   rw [← E1.out, ← E2.out] at HV
   have N3 : Hid (Nm w3 true A3 Q c3 (dq (vl a) (vl b))) := ⟨HQ.out.1, HQ.out.2.1, HV.out.1, G3.out⟩
   have N4 : Hid (Nm w3 n2 A4 [] c4 (dr (vl a) (vl b))) := ⟨HQ.out.2.2.1, HQ.out.2.2.2.1, HV.out.2, G4.out⟩
   clear hRl hR0
   go_wp2_with fail
   go_region_held3 (fun W => W.cell? ⟨w2.heap.size, 0, none⟩ = some (.bool (!n2)) ∧ W.cell? ⟨w2.heap.size, 1, none⟩ = some (.slice A1 l1.length c1) ∧ W.cell? ⟨w2.heap.size + 1, 0, none⟩ = some (.bool n2) ∧ W.cell? ⟨w2.heap.size + 1, 1, none⟩ = some (.slice A2 l2.length c2))
    (refine ⟨?_, ?_, ?_, ?_⟩ <;> first | assumption | (go_simp; done))
    (first
      | (go_at_call_of 50 (Value.agg #[Value.bool true, Value.slice A3 Q.length c3]); refine (text_num true A3 Q c3 _ _ (show Nm w3.drew _ _ _ _ _ from N3.out) (by omega) (HT.out.below HB3.out.drew)).mono ?_; rintro e w5 ⟨rfl, hb5⟩; have g0 : w5.cell? ⟨w2.heap.size, 0, none⟩ = some (.bool (!n2)) := (hb5.cell (cell_lt d0)).trans d0; have g1 := keepc d1 hb5; have g2 := keepc d2 hb5; have g3 := keepc d3 hb5; have hB5 := HB3.out.drew.trans (hb5.mono (by have := HB3.out.size; simpa using this)); have n5 := (show Nm w3.drew _ _ _ _ _ from N4.out).below hb5)
      | (go_at_call_of 50 (Value.agg #[Value.bool n2, Value.slice A4 0 c4]); refine (text_num n2 A4 [] c4 _ _ n5 (by simp) (HT.out.below hB5)).mono ?_; rintro e w6 ⟨rfl, hb6⟩; have i0 : w6.cell? ⟨w2.heap.size, 0, none⟩ = some (.bool (!n2)) := (hb6.cell (cell_lt g0)).trans g0; have i1 := keepc g1 hb6; have i2 := keepc g2 hb6; have i3 := keepc g3 hb6))
   go_wp2_with fail
   go_ret3
   exact ⟨rfl, hB5.trans (hb6.mono hB5.size)⟩
  ·have hr1 : decide ((0 : Int) < (R.length : Int)) = true := by simp only [decide_eq_true_eq]; omega
   have hRp : 0 < Tr.mval R := by
    rcases Nat.eq_zero_or_pos (Tr.mval R) with hz | hz
    ·have := (mval_eq_zero HQ.out.2.2.2.1).1 hz; rw [this] at hR0; simp at hR0
    ·exact hz
   have HV := Lib.hid (div_other' (nb := n2) HQ.out.2.2.2.2.1 HQ.out.2.2.2.2.2 hRp)
   rw [← E1.out, ← E2.out] at HV
   go_wp2_with fail
   have hw3l : w.heap.size ≤ w3.heap.size := HB3.out.size
   go_region_held3 (fun W => W.cell? ⟨w2.heap.size, 0, none⟩ = some (.bool (!n2)) ∧ W.cell? ⟨w2.heap.size, 1, none⟩ = some (.slice A1 l1.length c1) ∧ W.cell? ⟨w2.heap.size + 1, 0, none⟩ = some (.bool n2) ∧ W.cell? ⟨w2.heap.size + 1, 1, none⟩ = some (.slice A2 l2.length c2))
    (refine ⟨?_, ?_, ?_, ?_⟩ <;> first | assumption | (go_simp; done) | exact (World.cell?_alloc_lt _ _ _ (by simp; omega)).trans (by assumption))
    (first
      | (go_at_call 82; refine (plus_any A3 (some ⟨w3.heap.size, 0, none⟩) Q [1] c3 1 ((w3.alloc (.cells #[.int .u64 1] 128)).drew) (by omega) (by simp) HQ.out.1 (by intro x hx; simp at hx; omega) (show RdM (w3.alloc _) _ _ from (G3.out.below ((Below.refl _ _).alloc (Nat.le_refl _) _)).2.2) (show RdM (w3.alloc _) _ _ from OwnM.rd (sp := []) (heap_alloc_new w3 _))).mono ?_; rintro e w7 ⟨A7, Q7, c7, rfl, hc7, hS7, hA7, hR7, hb7⟩; have g0 : w7.cell? ⟨w2.heap.size, 0, none⟩ = some (.bool (!n2)) := (hb7.cell (by simp; omega)).trans ((World.cell?_alloc_lt w3 _ _ (by simp; omega)).trans d0); have g1 : w7.cell? ⟨w2.heap.size, 1, none⟩ = some (.slice A1 l1.length c1) := (hb7.cell (by simp; omega)).trans ((World.cell?_alloc_lt w3 _ _ (by simp; omega)).trans d1); have g2 : w7.cell? ⟨w2.heap.size + 1, 0, none⟩ = some (.bool n2) := (hb7.cell (by simp; omega)).trans ((World.cell?_alloc_lt w3 _ _ (by simp; omega)).trans d2); have g3 : w7.cell? ⟨w2.heap.size + 1, 1, none⟩ = some (.slice A2 l2.length c2) := (hb7.cell (by simp; omega)).trans ((World.cell?_alloc_lt w3 _ _ (by simp; omega)).trans d3); have hb37 : Below w3.heap.size w3 w7 := ((Below.refl _ _).alloc (Nat.le_refl _) _).drew.trans (hb7.mono (by simp)); have hB7 := HB3.out.trans (hb37.mono HB3.out.size); have H27 := H23.out.below hb37; have G47 := G4.out.below hb37; have hn7 : Norm Q7 := hS7.2.1 HQ.out.2.1 (norm_snoc (l := []) (by omega)))
      | (go_at_call 84; refine (minus_any A2 A4 l2 R c2 c4 w7 (by omega) hRl H27.1 HQ.out.2.2.1 (Nat.le_of_lt HQ.out.2.2.2.2.2) H27.2.2.2.2.2 G47.2.2 H27.2.2.2.2.1).mono ?_; rintro e w8 ⟨A8, R8, c8, rfl, hc8, hS8, hA8, hR8, hb8⟩; have p0 : w8.cell? ⟨w2.heap.size, 0, none⟩ = some (.bool (!n2)) := (hb8.cell (cell_lt g0)).trans g0; have p1 := keepc g1 hb8; have p2 := keepc g2 hb8; have p3 := keepc g3 hb8))
   have N7 : Hid (Nm w8 true A7 Q7 c7 (dq (vl a) (vl b))) := ⟨hS7.1, hn7, by rw [hS7.2.2, mval_single]; exact HV.out.1, hc7, hA7.1, hR7.below hb8⟩
   have N8 : Hid (Nm w8 n2 A8 R8 c8 (dr (vl a) (vl b))) := ⟨hS8.1, hS8.2.1, by rw [hS8.2.2]; exact HV.out.2, hc8, hA8.1, hR8⟩
   have HB8 : Hid (Below w.heap.size w w8) := hB7.trans (hb8.mono hB7.size)
   have hQ7 : Q7.length ≤ Q.length + 1 := by
    refine length_le_of_lt hn7 ?_
    rw [hS7.2.2, mval_single, Nat.pow_succ]
    have := mval_lt HQ.out.1
    omega
   have hR8l : R8.length ≤ l2.length := len_of_le H27.1 hS8.2.1 (by rw [hS8.2.2]; exact Nat.sub_le _ _)
   clear d0 d1 d2 d3 g0 g1 g2 g3 hS7 hS8 hb37 hb7 hb8 hB7 H27 G47 hA7 hA8 hR7 hR8
   go_wp2_with fail
   go_region_held3 (fun W => W.cell? ⟨w2.heap.size, 0, none⟩ = some (.bool (!n2)) ∧ W.cell? ⟨w2.heap.size, 1, none⟩ = some (.slice A1 l1.length c1) ∧ W.cell? ⟨w2.heap.size + 1, 0, none⟩ = some (.bool n2) ∧ W.cell? ⟨w2.heap.size + 1, 1, none⟩ = some (.slice A2 l2.length c2))
    (refine ⟨?_, ?_, ?_, ?_⟩ <;> first | assumption | (go_simp; done))
    (first
      | (go_at_call_of 50 (Value.agg #[Value.bool true, Value.slice A7 Q7.length c7]); refine (text_num true A7 Q7 c7 _ _ (show Nm w8.drew _ _ _ _ _ from N7.out) (by omega) (HT.out.below HB8.out.drew)).mono ?_; rintro e w5 ⟨rfl, hb5⟩; have g0 : w5.cell? ⟨w2.heap.size, 0, none⟩ = some (.bool (!n2)) := (hb5.cell (cell_lt p0)).trans p0; have g1 := keepc p1 hb5; have g2 := keepc p2 hb5; have g3 := keepc p3 hb5; have hB5 := HB8.out.drew.trans (hb5.mono (by have := HB8.out.size; simpa using this)); have n5 := (show Nm w8.drew _ _ _ _ _ from N8.out).below hb5)
      | (go_at_call_of 50 (Value.agg #[Value.bool n2, Value.slice A8 R8.length c8]); refine (text_num n2 A8 R8 c8 _ _ n5 (by omega) (HT.out.below hB5)).mono ?_; rintro e w6 ⟨rfl, hb6⟩; have i0 : w6.cell? ⟨w2.heap.size, 0, none⟩ = some (.bool (!n2)) := (hb6.cell (cell_lt g0)).trans g0; have i1 := keepc g1 hb6; have i2 := keepc g2 hb6; have i3 := keepc g3 hb6))
   go_wp2_with fail
   go_ret3
   exact ⟨rfl, hB5.trans (hb6.mono hB5.size)⟩
def decS (m : Nat) : ByteArray := if m = 0 then ⟨#[48]⟩ else I m
theorem dec_parse {m : Nat} (h : m ≤ 12) : Lib.parseIntB 64 (decS m).data.toList = .ok (m : Int) := by
 rcases (show m = 0 ∨ m = 1 ∨ m = 2 ∨ m = 3 ∨ m = 4 ∨ m = 5 ∨ m = 6 ∨ m = 7 ∨ m = 8 ∨ m = 9 ∨ m = 10 ∨ m = 11 ∨ m = 12 from by omega) with rfl | rfl | rfl | rfl | rfl | rfl | rfl | rfl | rfl | rfl | rfl | rfl | rfl <;> kernel_rfl
theorem dec_size {m : Nat} (h : m ≤ 12) : (decS m).size ≤ 3 := by
 unfold decS
 split
 ·decide
 ·exact I_size_le (k := 2) (by omega)
theorem isEI (a : ByteArray) : a.toList.isEmpty = decide (a = ⟨#[]⟩) := by
 rw [Lib.toList_data]
 by_cases hc : a = ⟨#[]⟩
 ·rw [decide_eq_true hc, hc]; rfl
 ·rw [decide_eq_false hc]
  cases hd : a.data.toList with
  | nil => exact absurd (by rw [show a = ⟨a.data⟩ from rfl, Array.toList_eq_nil_iff.1 hd]) hc
  | cons x r => rfl
theorem nPrint_small (m : Nat) (h : m ≤ 12) (w : World) : Calls Tryz.prog 225 #[.string (I m)] w fun e w' => e = .returned (.string (decS m)) ∧ Below w.heap.size w w' := by
 have HC := Lib.hid (Canonical_any (I m) w (Nat.le_trans (I_size_le (k := 2) (by omega)) (by omega)))
 rw [vl_I] at HC
 by_cases hm : m = 0
 ·have hd : decS m = ⟨#[48]⟩ := by unfold decS; rw [if_pos hm]
  have hi : I (m : Int) = ⟨#[]⟩ := by rw [hm]; rfl
  rw [hi] at HC ⊢
  rw [hd]
  go_enter Tryz.func225, Tryz.ntmps225
  go_wp2_with fail
  refine HC.out.mono ?_
  rintro e w1 ⟨rfl, b1⟩
  go_wp2_with fail
  go_ret
  exact ⟨rfl, b1⟩
 ·have hd : decS m = I m := by unfold decS; rw [if_neg hm]
  have he : (I (m : Int)).toList.isEmpty = false := by
   rw [isEI, decide_eq_false_iff_not]
   intro e
   have := I_inj (e.trans (show (⟨#[]⟩ : ByteArray) = I 0 from rfl))
   omega
  rw [hd]
  generalize I (m : Int) = s at HC he
  go_enter Tryz.func225, Tryz.ntmps225
  go_wp2_with fail
  refine HC.out.mono ?_
  rintro e w1 ⟨rfl, b1⟩
  go_wp2_with fail
  go_ret
  exact ⟨rfl, b1⟩
theorem parseInt_small (m : Nat) (h : m ≤ 12) (w : World) : Calls Tryz.prog 224 #[.string (decS m), .int .i64 10, .int .i64 64] w fun e w' => e = .returned (.tuple #[.int .i64 (m : Int), .nilIface]) ∧ Below w.heap.size w w' := by
 have HP := Lib.hid (Tryz.internal_strconv_ParseInt_10_all64 (decS m) (Nat.le_trans (dec_size h) (by omega)) w)
 rw [dec_parse h] at HP
 unfold Lib.intTuple at HP
 generalize decS m = s at HP
 go_enter Tryz.func224, Tryz.ntmps224
 go_wp2_with fail
 refine HP.out.mono ?_
 rintro e w1 ⟨rfl, hw⟩
 have HW : Hid (Below w.heap.size w w1) := by
  rcases hw with rfl | ⟨t, rfl⟩
  ·exact Below.refl _ _
  ·exact Lib.bytesWorld_below _ _ _
 go_wp2_with fail
 refine bodyPost_ret (results_tmp2 rfl _ _ _) rfl ?_
 exact ⟨rfl, HW.out⟩
theorem nSmall_any (m : Nat) (h : m ≤ 12) (w : World) : Calls Tryz.prog 171 #[.string (I m)] w fun e w' => e = .returned (.tuple #[.int .i64 (m : Int), .bool true]) ∧ Below w.heap.size w w' := by
 have HP := Lib.hid (nPrint_small m h w)
 have HI := Lib.hid (fun W => parseInt_small m h W)
 generalize I (m : Int) = s at HP
 go_enter Tryz.func171, Tryz.ntmps171
 go_wp2_with fail
 refine HP.out.mono ?_
 rintro e w1 ⟨rfl, b1⟩
 go_wp2_with fail
 refine (HI.out w1).mono ?_
 rintro e w2 ⟨rfl, b2⟩
 go_wp2_with fail
 refine bodyPost_ret (results_tmp2 rfl _ _ _) rfl ?_
 exact ⟨rfl, b1.trans (b2.mono b1.size)⟩
end Go.Proofs.YtbkmhmaldljgmaaGreatDoor
