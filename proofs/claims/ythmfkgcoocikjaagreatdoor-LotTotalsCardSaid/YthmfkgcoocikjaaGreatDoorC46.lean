/-
  The walks of trancheref02.Of, Neg, Add, Mul, Sub, New, Floor on canonical fractions of any length. (Printed by gen_ref29.py.)
  The walks of trancheref02.Sub, Canonical, New, Floor, Compare on canonical fractions of any length. (Printed by gen_ref30.py.)
  The walk of trancheref03.even; the plain side of rounding.
  The walk of trancheref03.RoundTo, to the nearest integer. (Printed by gen_ref33.py.)
-/
import Derived.Test.YthmfkgcoocikjaaGreatDoorC45
import Derived.Test.YthmfkgcoocikjaaGreatDoorP20
import Derived.Test.YthmfkgcoocikjaaGreatDoorP27
import Derived.Test.YthmfkgcoocikjaaGreatDoorP30
import Derived.Deep.DeepCutAuto
import Derived.Deep.RegionHeld3
set_option linter.unusedVariables false
set_option linter.unusedSimpArgs false
namespace Go.Proofs.YthmfkgcoocikjaaGreatDoor
open Go.RowKit Tr Go.Shelf
theorem raw_fenc (p : Rat) : rawN (I p.num) (dn p) = I p.num ∧ rawD (dn p) = I (p.den : Int) := by
 have hp : 0 < p.den := p.den_pos
 unfold rawN rawD dn
 by_cases h : p.den = 1
 ·rw [if_pos h, show vl (⟨#[]⟩ : ByteArray) = 0 from rfl, if_neg (by omega), if_pos rfl, h]
  exact ⟨rfl, one1_eq⟩
 ·rw [if_neg h, vl_I, if_neg (by omega), if_neg (by omega), if_neg (by omega)]
  exact ⟨rfl, rfl⟩
theorem rRawQ {p : Rat} {k : Nat} (h : BdQ p k) (hk : k ≤ 30000) (w : World) : Calls Tryz.prog 171 #[fenc p] w fun e w' => e = .returned (.tuple #[.string (I p.num), .string (I (p.den : Int))]) ∧ Below w.heap.size w w' := by
 have := rRaw_any (I p.num) (dn p) (by have := h.num; omega) (by have := h.dn; omega) w
 rw [(raw_fenc p).1, (raw_fenc p).2] at this
 exact this
theorem rMulI {x y : Int} {a b : Nat} (hx : x.natAbs < 10 ^ a) (hy : y.natAbs < 10 ^ b) (ha : a ≤ 60000) (hb : b ≤ 60000) (w : World) : Calls Tryz.prog 103 #[.string (I x), .string (I y)] w fun e w' => e = .returned (.string (I (x * y))) ∧ Below w.heap.size w w' := by
 have := rMul_any (I x) (I y) (by have := I_size_le hx; omega) (by have := I_size_le hy; omega) w
 rw [vl_I, vl_I] at this
 exact this
theorem rAddI {x y : Int} {a : Nat} (hx : x.natAbs < 10 ^ a) (hy : y.natAbs < 10 ^ a) (ha : a ≤ 60000) (w : World) : Calls Tryz.prog 47 #[.string (I x), .string (I y)] w fun e w' => e = .returned (.string (I (x + y))) ∧ Below w.heap.size w w' := by
 have := rAdd_any (I x) (I y) (by have := I_size_le hx; omega) (by have := I_size_le hy; omega) w
 rw [vl_I, vl_I] at this
 exact this
theorem rRedI {x y : Int} {a : Nat} (hx : x.natAbs < 10 ^ a) (hy : y.natAbs < 10 ^ a) (hp : 0 < y) (ha : a ≤ 60000) (w : World) : Calls Tryz.prog 172 #[.string (I x), .string (I y)] w fun e w' => e = .returned (fenc (Rat.divInt x y)) ∧ Below w.heap.size w w' := by
 have := rreduced_any (I x) (I y) a (by omega) (by have := I_size_le hx; omega) (by have := I_size_le hy; omega) (by rw [vl_I]; exact hx) (by rw [vl_I]; exact hy) (by rw [vl_I]; exact hp) w
 rw [vl_I, vl_I] at this
 exact this
theorem add_lt {x y : Int} {a : Nat} (hx : x.natAbs < 10 ^ a) (hy : y.natAbs < 10 ^ a) : (x + y).natAbs < 10 ^ (a + 1) := by rw [Nat.pow_succ]; omega
theorem den_lt {p : Rat} {k : Nat} (h : BdQ p k) : ((p.den : Int)).natAbs < 10 ^ k := by rw [Int.natAbs_natCast]; exact h.2
theorem mul_eq (p q : Rat) : Rat.divInt (p.num * q.num) ((p.den : Int) * (q.den : Int)) = p * q := by
 conv => rhs; rw [q_divInt p, q_divInt q]
 rw [Rat.divInt_mul_divInt]
theorem add_eq (p q : Rat) : Rat.divInt (p.num * (q.den : Int) + q.num * (p.den : Int)) ((p.den : Int) * (q.den : Int)) = p + q := by
 conv => rhs; rw [q_divInt p, q_divInt q]
 rw [Rat.divInt_add_divInt _ _ (by have := p.den_pos; omega) (by have := q.den_pos; omega)]
theorem neg_eq (p : Rat) : Rat.divInt (-p.num) (p.den : Int) = -p := by
 conv => rhs; rw [q_divInt p]
 rw [Rat.neg_divInt]
theorem of_eq (z : Int) : Rat.divInt z 1 = (z : Rat) := by
 have := q_divInt (z : Rat)
 rw [Rat.num_intCast, Rat.den_intCast] at this
 exact this.symm
set_option maxHeartbeats 2000000 in
theorem rfOf_any (a : ByteArray) (ha : a.size ≤ 50000) (w : World) : Calls Tryz.prog 175 #[.string a] w fun e w' => e = .returned (fenc (vl a : Rat)) ∧ Below w.heap.size w w' := by
 have H2 := fun W => rreduced_any a one1 (a.size + 1) (by omega) (by omega) (by decide) (Nat.lt_of_lt_of_le (vl_lt a) (pow_mono (by omega))) (Nat.lt_of_lt_of_le (vl_lt one1) (pow_mono (by show 1 ≤ _; omega))) (by rw [one1_eq, vl_I]; omega) W
 rw [show vl one1 = 1 from by rw [one1_eq, vl_I], of_eq] at H2
 have H2 := Lib.hid H2
 have H1 := Lib.hid (fun W => rone_any W)
 clear ha
 obtain ⟨W0, hW0⟩ : ∃ W0, w.alloc (.cells #[.string ⟨#[]⟩, .string ⟨#[]⟩] 42) = W0 := ⟨_, rfl⟩
 have K1 : Hid (W0.heap[w.heap.size]? = some (.cells #[.string ⟨#[]⟩, .string ⟨#[]⟩] 42)) := by rw [Hid, ← hW0]; exact heap_alloc_new w _
 have C1 : Hid (Below w.heap.size w W0) := by rw [Hid, ← hW0]; exact (Below.refl _ w).alloc (Nat.le_refl _) _
 go_enter Tryz.func175, Tryz.ntmps175
 go_wp2_with fail
 try rw [hW0]
 refine (H1.out _).mono ?_
 rintro e w1 ⟨rfl, rfl⟩
 go_wp2_with fail
 refine (H2.out _).mono ?_
 rintro e w2 ⟨rfl, c2⟩
 have C2 := Lib.hid (C1.out.trans (c2.mono C1.out.size))
 have K2 := Lib.hid ((c2.block _ (Array.getElem?_eq_some_iff.1 K1.out).1).trans K1.out)
 clear c2 C1 K1 H2
 obtain ⟨rq, hrq⟩ : ∃ rq, (vl a : Rat) = rq := ⟨_, rfl⟩
 rw [hrq]
 have HRQ := Lib.hid hrq
 clear hrq
 have a0 := Lib.cell_of_heap K2.out 0
 have a1 := Lib.cell_of_heap K2.out 1
 simp at a0 a1
 have f0 := Lib.frozen_of_heap K2.out 0
 have f1 := Lib.frozen_of_heap K2.out 1
 unfold fenc
 go_wp2_with fail
 have k2 := set2 K2.out (.string (I rq.num)) (.string (dn rq))
 have m0 := Lib.cell_of_heap k2 0
 have m1 := Lib.cell_of_heap k2 1
 simp at m0 m1
 refine bodyPost_ret (v := .agg #[.string (I rq.num), .string (dn rq)]) (by simp [results, Tryz.results175, go_sem, m0, m1]) rfl ?_
 exact ⟨by rw [HRQ.out]; rfl, (C2.out.setCell (p := ⟨w.heap.size, 0, none⟩) (by show w.heap.size ≤ w.heap.size; omega) _).setCell (p := ⟨w.heap.size, 1, none⟩) (by show w.heap.size ≤ w.heap.size; omega) _⟩
set_option maxHeartbeats 2000000 in
theorem rfNegQ {p : Rat} {k : Nat} (h : BdQ p k) (hk : k ≤ 30000) (w : World) : Calls Tryz.prog 218 #[fenc p] w fun e w' => e = .returned (fenc (-p)) ∧ Below w.heap.size w w' := by
 have H1 := Lib.hid (fun W => rRawQ h hk W)
 have H2 := fun W => rNeg_any (I p.num) (by have := h.num; omega) W
 rw [vl_I] at H2
 have H2 := Lib.hid H2
 have H3 := fun W => rRedI (x := -p.num) (y := (p.den : Int)) (a := k) (by rw [Int.natAbs_neg]; exact h.1) (den_lt h) (by have := p.den_pos; omega) (by omega) W
 rw [neg_eq] at H3
 have H3 := Lib.hid H3
 clear h hk
 obtain ⟨W0, hW0, hb0, hs0, k0, k1⟩ := box2 w (.cells #[.string (I p.num), .string (dn p)] 42) (.cells #[.string ⟨#[]⟩, .string ⟨#[]⟩] 42)
 have b0 := Lib.cell_of_heap k0 0
 have b1 := Lib.cell_of_heap k0 1
 simp at b0 b1
 have C0 := Lib.hid hb0
 have K0 := Lib.hid k1
 clear hb0 k0 k1 hs0
 unfold fenc at H1
 show Calls Tryz.prog 218 #[.agg #[.string (I p.num), .string (dn p)]] w _
 go_enter Tryz.func218, Tryz.ntmps218
 go_wp2_with fail
 try rw [← hW0]
 refine (H1.out _).mono ?_
 rintro e w1 ⟨rfl, c1⟩
 have C1 := Lib.hid (C0.out.trans (c1.mono C0.out.size))
 have K1 := Lib.hid ((c1.block _ (Array.getElem?_eq_some_iff.1 K0.out).1).trans K0.out)
 clear c1 C0 K0 H1 b0 b1 hW0
 go_wp2_with fail
 refine (H2.out _).mono ?_
 rintro e w2 ⟨rfl, rfl⟩
 go_wp2_with fail
 refine (H3.out _).mono ?_
 rintro e w2 ⟨rfl, c2⟩
 have C2 := Lib.hid (C1.out.trans (c2.mono C1.out.size))
 have K2 := Lib.hid ((c2.block _ (Array.getElem?_eq_some_iff.1 K1.out).1).trans K1.out)
 clear c2 C1 K1 H3
 obtain ⟨rq, hrq⟩ : ∃ rq, -p = rq := ⟨_, rfl⟩
 rw [hrq]
 have HRQ := Lib.hid hrq
 clear hrq
 have a0 := Lib.cell_of_heap K2.out 0
 have a1 := Lib.cell_of_heap K2.out 1
 simp at a0 a1
 have f0 := Lib.frozen_of_heap K2.out 0
 have f1 := Lib.frozen_of_heap K2.out 1
 unfold fenc
 go_wp2_with fail
 have k2 := set2 K2.out (.string (I rq.num)) (.string (dn rq))
 have m0 := Lib.cell_of_heap k2 0
 have m1 := Lib.cell_of_heap k2 1
 simp at m0 m1
 refine bodyPost_ret (v := .agg #[.string (I rq.num), .string (dn rq)]) (by simp [results, Tryz.results218, go_sem, m0, m1]) rfl ?_
 exact ⟨by rw [HRQ.out]; rfl, (C2.out.setCell (p := ⟨w.heap.size + 1, 0, none⟩) (by show w.heap.size ≤ w.heap.size + 1; omega) _).setCell (p := ⟨w.heap.size + 1, 1, none⟩) (by show w.heap.size ≤ w.heap.size + 1; omega) _⟩
set_option maxHeartbeats 4000000 in
theorem rfAddQ {p q : Rat} {k : Nat} (h : BdQ p k) (h' : BdQ q k) (hk : k ≤ 20000) (w : World) : Calls Tryz.prog 217 #[fenc p, fenc q] w fun e w' => e = .returned (fenc (p + q)) ∧ Below w.heap.size w w' := by
 have H1 := Lib.hid (fun W => rRawQ h (by omega) W)
 have H2 := Lib.hid (fun W => rRawQ h' (by omega) W)
 have H3 := Lib.hid (fun W => rMulI (x := p.num) (y := (q.den : Int)) h.1 (den_lt h') (by omega) (by omega) W)
 have H4 := Lib.hid (fun W => rMulI (x := q.num) (y := (p.den : Int)) h'.1 (den_lt h) (by omega) (by omega) W)
 have H5 := Lib.hid (fun W => rAddI (x := p.num * (q.den : Int)) (y := q.num * (p.den : Int)) (a := k + k) (mul_lt_pow h.1 (den_lt h')) (mul_lt_pow h'.1 (den_lt h)) (by omega) W)
 have H6 := Lib.hid (fun W => rMulI (x := (p.den : Int)) (y := (q.den : Int)) (den_lt h) (den_lt h') (by omega) (by omega) W)
 have H7 := fun W => rRedI (x := p.num * (q.den : Int) + q.num * (p.den : Int)) (y := (p.den : Int) * (q.den : Int)) (a := k + k + 1) (add_lt (mul_lt_pow h.1 (den_lt h')) (mul_lt_pow h'.1 (den_lt h))) (Nat.lt_of_lt_of_le (mul_lt_pow (den_lt h) (den_lt h')) (pow_mono (by omega))) (Int.mul_pos (by have := p.den_pos; omega) (by have := q.den_pos; omega)) (by omega) W
 rw [add_eq] at H7
 have H7 := Lib.hid H7
 clear h h' hk
 obtain ⟨W0, hW0, hb0, hs0, k0, k1, k2⟩ := box3 w (.cells #[.string (I p.num), .string (dn p)] 42) (.cells #[.string (I q.num), .string (dn q)] 42) (.cells #[.string ⟨#[]⟩, .string ⟨#[]⟩] 42)
 have b0 := Lib.cell_of_heap k0 0
 have b1 := Lib.cell_of_heap k0 1
 have d0 := Lib.cell_of_heap k1 0
 have d1 := Lib.cell_of_heap k1 1
 simp at b0 b1 d0 d1
 have C0 := Lib.hid hb0
 have K0 := Lib.hid k2
 clear hb0 k0 k1 k2 hs0
 unfold fenc at H1 H2
 show Calls Tryz.prog 217 #[.agg #[.string (I p.num), .string (dn p)], .agg #[.string (I q.num), .string (dn q)]] w _
 go_enter Tryz.func217, Tryz.ntmps217
 go_wp2_with fail
 try rw [← hW0]
 refine (H1.out _).mono ?_
 rintro e w1 ⟨rfl, c1⟩
 have e0 := (c1.cell (cell_lt d0)).trans d0
 have e1 := (c1.cell (cell_lt d1)).trans d1
 have C1 := Lib.hid (C0.out.trans (c1.mono C0.out.size))
 have K1 := Lib.hid ((c1.block _ (Array.getElem?_eq_some_iff.1 K0.out).1).trans K0.out)
 clear c1 C0 K0 H1 b0 b1 d0 d1 hW0
 go_wp2_with fail
 refine (H2.out _).mono ?_
 rintro e w2 ⟨rfl, c2⟩
 have C2 := Lib.hid (C1.out.trans (c2.mono C1.out.size))
 have K2 := Lib.hid ((c2.block _ (Array.getElem?_eq_some_iff.1 K1.out).1).trans K1.out)
 clear c2 C1 K1 H2
 clear e0 e1
 go_wp2_with fail
 refine (H3.out _).mono ?_
 rintro e w3 ⟨rfl, c3⟩
 have C3 := Lib.hid (C2.out.trans (c3.mono C2.out.size))
 have K3 := Lib.hid ((c3.block _ (Array.getElem?_eq_some_iff.1 K2.out).1).trans K2.out)
 clear c3 C2 K2 H3
 go_wp2_with fail
 refine (H4.out _).mono ?_
 rintro e w4 ⟨rfl, c4⟩
 have C4 := Lib.hid (C3.out.trans (c4.mono C3.out.size))
 have K4 := Lib.hid ((c4.block _ (Array.getElem?_eq_some_iff.1 K3.out).1).trans K3.out)
 clear c4 C3 K3 H4
 go_wp2_with fail
 refine (H5.out _).mono ?_
 rintro e w5 ⟨rfl, c5⟩
 have C5 := Lib.hid (C4.out.trans (c5.mono C4.out.size))
 have K5 := Lib.hid ((c5.block _ (Array.getElem?_eq_some_iff.1 K4.out).1).trans K4.out)
 clear c5 C4 K4 H5
 go_wp2_with fail
 refine (H6.out _).mono ?_
 rintro e w6 ⟨rfl, c6⟩
 have C6 := Lib.hid (C5.out.trans (c6.mono C5.out.size))
 have K6 := Lib.hid ((c6.block _ (Array.getElem?_eq_some_iff.1 K5.out).1).trans K5.out)
 clear c6 C5 K5 H6
 go_wp2_with fail
 refine (H7.out _).mono ?_
 rintro e w7 ⟨rfl, c7⟩
 have C7 := Lib.hid (C6.out.trans (c7.mono C6.out.size))
 have K7 := Lib.hid ((c7.block _ (Array.getElem?_eq_some_iff.1 K6.out).1).trans K6.out)
 clear c7 C6 K6 H7
 obtain ⟨rq, hrq⟩ : ∃ rq, p + q = rq := ⟨_, rfl⟩
 rw [hrq]
 have HRQ := Lib.hid hrq
 clear hrq
 have a0 := Lib.cell_of_heap K7.out 0
 have a1 := Lib.cell_of_heap K7.out 1
 simp at a0 a1
 have f0 := Lib.frozen_of_heap K7.out 0
 have f1 := Lib.frozen_of_heap K7.out 1
 unfold fenc
 go_wp2_with fail
 have k2 := set2 K7.out (.string (I rq.num)) (.string (dn rq))
 have m0 := Lib.cell_of_heap k2 0
 have m1 := Lib.cell_of_heap k2 1
 simp at m0 m1
 refine bodyPost_ret (v := .agg #[.string (I rq.num), .string (dn rq)]) (by simp [results, Tryz.results217, go_sem, m0, m1]) rfl ?_
 exact ⟨by rw [HRQ.out]; rfl, (C7.out.setCell (p := ⟨w.heap.size + 1 + 1, 0, none⟩) (by show w.heap.size ≤ w.heap.size + 1 + 1; omega) _).setCell (p := ⟨w.heap.size + 1 + 1, 1, none⟩) (by show w.heap.size ≤ w.heap.size + 1 + 1; omega) _⟩
end Go.Proofs.YthmfkgcoocikjaaGreatDoor
namespace Go.Proofs.YthmfkgcoocikjaaGreatDoor
open Go.RowKit Tr Go.Shelf
structure SBx (w : World) (p q : Rat) (W : World) : Prop where
 k0 : W.heap[w.heap.size]? = some (.cells #[.string (I p.num), .string (dn p)] 42 (0, 0))
 k1 : W.heap[w.heap.size + 1]? = some (.cells #[.string (I q.num), .string (dn q)] 42 (0, 0))
 k2 : W.heap[w.heap.size + 1 + 1]? = some (.cells #[.string ⟨#[]⟩, .string ⟨#[]⟩] 42 (0, 0))
 bel : Below w.heap.size w W
theorem SBx.below {w : World} {p q : Rat} {W W' : World} (h : SBx w p q W) (hb : Below W.heap.size W W') : SBx w p q W' :=
 ⟨(hb.block _ (Array.getElem?_eq_some_iff.1 h.k0).1).trans h.k0, (hb.block _ (Array.getElem?_eq_some_iff.1 h.k1).1).trans h.k1, (hb.block _ (Array.getElem?_eq_some_iff.1 h.k2).1).trans h.k2, h.bel.trans (hb.mono h.bel.size)⟩
theorem SBx.calls {w : World} {p q : Rat} {f : Nat} {args : Array Value} {v : Value} (h : ∀ W, Calls Tryz.prog f args W fun e w' => e = .returned v ∧ Below W.heap.size W w') :
 ∀ W, SBx w p q W → Calls Tryz.prog f args W fun e wn => e = .returned v ∧ SBx w p q wn ∧ (wn.cell? ⟨w.heap.size, 0, none⟩ = some (.string (I p.num)) ∧ wn.cell? ⟨w.heap.size, 1, none⟩ = some (.string (dn p)) ∧ wn.cell? ⟨w.heap.size + 1, 0, none⟩ = some (.string (I q.num)) ∧ wn.cell? ⟨w.heap.size + 1, 1, none⟩ = some (.string (dn q))) ∧ wn.cell? ⟨w.heap.size + 1 + 1, 0, none⟩ = some (.string ⟨#[]⟩) ∧ wn.cell? ⟨w.heap.size + 1 + 1, 1, none⟩ = some (.string ⟨#[]⟩) ∧ wn.frozen? ⟨w.heap.size + 1 + 1, 0, none⟩ = false ∧ wn.frozen? ⟨w.heap.size + 1 + 1, 1, none⟩ = false := by
 intro W hW
 refine (h W).mono ?_
 rintro e wn ⟨rfl, bn⟩
 have hn := hW.below bn
 exact ⟨rfl, hn, ⟨Lib.cell_of_heap hn.k0 0, Lib.cell_of_heap hn.k0 1, Lib.cell_of_heap hn.k1 0, Lib.cell_of_heap hn.k1 1⟩, Lib.cell_of_heap hn.k2 0, Lib.cell_of_heap hn.k2 1, Lib.frozen_of_heap hn.k2 0, Lib.frozen_of_heap hn.k2 1⟩
set_option maxHeartbeats 4000000 in
theorem rfSubQ {p q : Rat} {k : Nat} (h : BdQ p k) (h' : BdQ q k) (hk : k ≤ 20000) (w : World) : Calls Tryz.prog 174 #[fenc p, fenc q] w fun e w' => e = .returned (fenc (p - q)) ∧ Below w.heap.size w w' := by
 have C1 := fun W => rfNegQ h' (by omega) W
 have C2 := fun W => rfAddQ h h'.neg hk W
 rw [← Rat.sub_eq_add_neg] at C2
 have HC1 := Lib.hid (SBx.calls (w := w) (p := p) (q := q) C1)
 have HC2 := Lib.hid (SBx.calls (w := w) (p := p) (q := q) C2)
 obtain ⟨rn, hrn⟩ : ∃ rn, -q = rn := ⟨_, rfl⟩
 obtain ⟨rq, hrq⟩ : ∃ rq, p - q = rq := ⟨_, rfl⟩
 rw [hrn] at HC1 HC2
 rw [hrq] at HC2 ⊢
 clear h h' hk C1 C2 hrn hrq
 obtain ⟨W0, hW0, hb0, hs0, k0, k1, k2⟩ := box3 w (.cells #[.string (I p.num), .string (dn p)] 42) (.cells #[.string (I q.num), .string (dn q)] 42) (.cells #[.string ⟨#[]⟩, .string ⟨#[]⟩] 42)
 have hg0 : SBx w p q W0 := ⟨k0, k1, k2, hb0⟩
 have b0 := Lib.cell_of_heap k0 0
 have b1 := Lib.cell_of_heap k0 1
 have d0 := Lib.cell_of_heap k1 0
 have d1 := Lib.cell_of_heap k1 1
 simp at b0 b1 d0 d1
 clear hb0 k0 k1 k2 hs0
 unfold fenc at HC1 HC2 ⊢
 go_enter Tryz.func174, Tryz.ntmps174
 go_wp2_with fail
 rw [← hW0]
 clear hW0
 have hg : SBx w p q W0.drew := hg0.below (Below.refl _ _).drew
 clear hg0
 go_region_held3 (fun W => W.cell? ⟨w.heap.size, 0, none⟩ = some (.string (I p.num)) ∧ W.cell? ⟨w.heap.size, 1, none⟩ = some (.string (dn p)) ∧ W.cell? ⟨w.heap.size + 1, 0, none⟩ = some (.string (I q.num)) ∧ W.cell? ⟨w.heap.size + 1, 1, none⟩ = some (.string (dn q)))
  (((try dsimp only); refine ⟨?_, ?_, ?_, ?_⟩ <;> first | assumption | (go_simp; done)))
  (first
    | (go_at_call 218; refine (HC1.out _ hg).mono ?_; clear hg b0 b1 d0 d1; rintro e wn ⟨rfl, hg, ⟨b0, b1, d0, d1⟩, m0, m1, f0, f1⟩)
    | (go_at_call 217; refine (HC2.out _ hg).mono ?_; clear hg b0 b1 d0 d1; rintro e wn ⟨rfl, hg, ⟨b0, b1, d0, d1⟩, m0, m1, f0, f1⟩))
 go_wp2_with fail
 have k2 := set2 hg.k2 (.string (I rq.num)) (.string (dn rq))
 have j0 := Lib.cell_of_heap k2 0
 have j1 := Lib.cell_of_heap k2 1
 simp at j0 j1
 refine bodyPost_ret (v := .agg #[.string (I rq.num), .string (dn rq)]) (by simp [results, Tryz.results174, go_sem, j0, j1]) rfl ?_
 exact ⟨rfl, (hg.bel.setCell (p := ⟨w.heap.size + 1 + 1, 0, none⟩) (by show w.heap.size ≤ w.heap.size + 1 + 1; omega) _).setCell (p := ⟨w.heap.size + 1 + 1, 1, none⟩) (by show w.heap.size ≤ w.heap.size + 1 + 1; omega) _⟩
theorem raw_int {x y : Int} (h : 0 < y) : rawN (I x) (I y) = I x ∧ rawD (I y) = I y := by
 unfold rawN rawD
 rw [vl_I, if_neg (by omega), if_neg (by omega), if_neg (by omega)]
 exact ⟨rfl, rfl⟩
set_option maxHeartbeats 2000000 in
theorem rfCanonI {x y : Int} {a : Nat} (hx : x.natAbs < 10 ^ a) (hy : y.natAbs < 10 ^ a) (hp : 0 < y) (ha : a ≤ 60000) (w : World) : Calls Tryz.prog 136 #[.agg #[.string (I x), .string (I y)]] w fun e w' => e = .returned (fenc (Rat.divInt x y)) ∧ Below w.heap.size w w' := by
 have H1 := fun W => rRaw_any (I x) (I y) (by have := I_size_le hx; omega) (by have := I_size_le hy; omega) W
 rw [(raw_int (x := x) hp).1, (raw_int (x := x) hp).2] at H1
 have H1 := Lib.hid H1
 have H2 := Lib.hid (fun W => rRedI hx hy hp ha W)
 clear hx hy hp ha
 obtain ⟨W0, hW0, hb0, hs0, k0, k1⟩ := box2 w (.cells #[.string (I x), .string (I y)] 42) (.cells #[.string ⟨#[]⟩, .string ⟨#[]⟩] 42)
 have b0 := Lib.cell_of_heap k0 0
 have b1 := Lib.cell_of_heap k0 1
 simp at b0 b1
 have C0 := Lib.hid hb0
 have K0 := Lib.hid k1
 clear hb0 k0 k1 hs0
 go_enter Tryz.func136, Tryz.ntmps136
 go_wp2_with fail
 try rw [← hW0]
 refine (H1.out _).mono ?_
 rintro e w1 ⟨rfl, c1⟩
 have C1 := Lib.hid (C0.out.trans (c1.mono C0.out.size))
 have K1 := Lib.hid ((c1.block _ (Array.getElem?_eq_some_iff.1 K0.out).1).trans K0.out)
 clear c1 C0 K0 H1 b0 b1 hW0
 go_wp2_with fail
 refine (H2.out _).mono ?_
 rintro e w2 ⟨rfl, c2⟩
 have C2 := Lib.hid (C1.out.trans (c2.mono C1.out.size))
 have K2 := Lib.hid ((c2.block _ (Array.getElem?_eq_some_iff.1 K1.out).1).trans K1.out)
 clear c2 C1 K1 H2
 obtain ⟨rq, hrq⟩ : ∃ rq, Rat.divInt x y = rq := ⟨_, rfl⟩
 rw [hrq]
 have HRQ := Lib.hid hrq
 clear hrq
 have a0 := Lib.cell_of_heap K2.out 0
 have a1 := Lib.cell_of_heap K2.out 1
 simp at a0 a1
 have f0 := Lib.frozen_of_heap K2.out 0
 have f1 := Lib.frozen_of_heap K2.out 1
 unfold fenc
 go_wp2_with fail
 have k2 := set2 K2.out (.string (I rq.num)) (.string (dn rq))
 have m0 := Lib.cell_of_heap k2 0
 have m1 := Lib.cell_of_heap k2 1
 simp at m0 m1
 refine bodyPost_ret (v := .agg #[.string (I rq.num), .string (dn rq)]) (by simp [results, Tryz.results136, go_sem, m0, m1]) rfl ?_
 exact ⟨by rw [HRQ.out]; rfl, (C2.out.setCell (p := ⟨w.heap.size + 1, 0, none⟩) (by show w.heap.size ≤ w.heap.size + 1; omega) _).setCell (p := ⟨w.heap.size + 1, 1, none⟩) (by show w.heap.size ≤ w.heap.size + 1; omega) _⟩
set_option maxHeartbeats 2000000 in
theorem rfNewI {x y : Int} {a : Nat} (hx : x.natAbs < 10 ^ a) (hy : y.natAbs < 10 ^ a) (hp : 0 < y) (ha : a ≤ 60000) (w : World) : Calls Tryz.prog 102 #[.string (I x), .string (I y)] w fun e w' => e = .returned (.tuple #[fenc (Rat.divInt x y), .int .i64 0]) ∧ Below w.heap.size w w' := by
 have H1 := fun W => rzero_any (I y) (by have := I_size_le hy; omega) W
 rw [vl_I, show (y == 0) = false from by rw [beq_eq_false_iff_ne]; omega] at H1
 have H1 := Lib.hid H1
 have H2 := Lib.hid (fun W => rfCanonI hx hy hp ha W)
 clear hx hy hp ha
 obtain ⟨W0, hW0⟩ : ∃ W0, w.alloc (.cells #[.string ⟨#[]⟩, .string ⟨#[]⟩] 42) = W0 := ⟨_, rfl⟩
 have K1 : Hid (W0.heap[w.heap.size]? = some (.cells #[.string ⟨#[]⟩, .string ⟨#[]⟩] 42)) := by rw [Hid, ← hW0]; exact heap_alloc_new w _
 have C1 : Hid (Below w.heap.size w W0) := by rw [Hid, ← hW0]; exact (Below.refl _ w).alloc (Nat.le_refl _) _
 go_enter Tryz.func102, Tryz.ntmps102
 go_wp2_with fail
 try rw [hW0]
 refine (H1.out _).mono ?_
 rintro e w1 ⟨rfl, rfl⟩
 go_wp2_with fail
 refine (H2.out _).mono ?_
 rintro e w2 ⟨rfl, c2⟩
 have C2 := Lib.hid (C1.out.trans (c2.mono C1.out.size))
 have K2 := Lib.hid ((c2.block _ (Array.getElem?_eq_some_iff.1 K1.out).1).trans K1.out)
 clear c2 C1 K1 H2
 obtain ⟨rq, hrq⟩ : ∃ rq, Rat.divInt x y = rq := ⟨_, rfl⟩
 rw [hrq]
 have HRQ := Lib.hid hrq
 clear hrq
 have a0 := Lib.cell_of_heap K2.out 0
 have a1 := Lib.cell_of_heap K2.out 1
 simp at a0 a1
 have f0 := Lib.frozen_of_heap K2.out 0
 have f1 := Lib.frozen_of_heap K2.out 1
 unfold fenc
 go_wp2_with fail
 have k2 := set2 K2.out (.string (I rq.num)) (.string (dn rq))
 have m0 := Lib.cell_of_heap k2 0
 have m1 := Lib.cell_of_heap k2 1
 simp at m0 m1
 refine bodyPost_ret (v := .tuple #[.agg #[.string (I rq.num), .string (dn rq)], .int .i64 0]) (by simp [results, Tryz.results102, go_sem, m0, m1]) rfl ?_
 exact ⟨by rw [HRQ.out]; rfl, (C2.out.setCell (p := ⟨w.heap.size, 0, none⟩) (by show w.heap.size ≤ w.heap.size; omega) _).setCell (p := ⟨w.heap.size, 1, none⟩) (by show w.heap.size ≤ w.heap.size; omega) _⟩
theorem floor_le (n : Int) (d : Nat) (hd : 0 < d) : n / (d : Int) * (d : Int) ≤ n := Int.ediv_mul_le n (by omega)
theorem ediv_lt {n : Int} {d k : Nat} (hn : n.natAbs < 10 ^ k) (hd : 0 < d) : (n / (d : Int)).natAbs < 10 ^ (k + 1) := by
 have h1 : (n / (d : Int)).natAbs ≤ n.natAbs := by
  rcases Int.lt_or_le n 0 with h | h
  ·have a1 : n / (d : Int) < 0 := Int.ediv_neg_of_neg_of_pos h (by omega)
   have a2 : n ≤ n / (d : Int) := by
    refine (Int.le_ediv_iff_mul_le (by omega)).2 ?_
    have := Int.mul_le_mul_of_nonpos_left (a := n) (b := (d : Int)) (c := 1) (by omega) (by omega)
    omega
   omega
  ·have a1 : 0 ≤ n / (d : Int) := Int.ediv_nonneg h (by omega)
   have a2 : n / (d : Int) ≤ n := Int.ediv_le_self _ h
   omega
 rw [Nat.pow_succ]; omega
set_option maxHeartbeats 2000000 in
theorem rFloorQ {p : Rat} {k : Nat} (h : BdQ p k) (hk : k ≤ 20000) (w : World) : Calls Tryz.prog 173 #[fenc p] w fun e w' => e = .returned (.string (I (p.num / (p.den : Int)))) ∧ Below w.heap.size w w' := by
 have hdp : 0 < p.den := p.den_pos
 have H1 := Lib.hid (fun W => rRawQ h (by omega) W)
 have H2 := fun W => rDiv_any (I p.num) (I (p.den : Int)) (by have := h.num; omega) (by have := I_size_le (den_lt h); omega) (by rw [vl_I]; omega) W
 rw [vl_I, vl_I] at H2
 have H2 := Lib.hid H2
 have H3 := Lib.hid (fun W => rMulI (x := p.num / (p.den : Int)) (y := (p.den : Int)) (ediv_lt h.1 hdp) (den_lt h) (by omega) (by omega) W)
 have hz1 : (I (p.num / (p.den : Int) * (p.den : Int))).size ≤ 1000000 := by
  have := I_size_le (mul_lt_pow (ediv_lt h.1 hdp) (den_lt h)); omega
 have H4 := fun W => rCompare_any (I (p.num / (p.den : Int) * (p.den : Int))) (I p.num) hz1 (by have := h.num; omega) W
 rw [vl_I, vl_I] at H4
 have H4 := Lib.hid H4
 have t1 : decide (0 < cmpI (p.num / (p.den : Int) * (p.den : Int)) p.num) = false := decide_eq_false (by rw [cmpI_gt]; have := floor_le p.num p.den hdp; omega)
 obtain ⟨W0, hW0⟩ : ∃ W0, w.alloc (.cells #[.string (I p.num), .string (dn p)] 42) = W0 := ⟨_, rfl⟩
 have hk0 : W0.heap[w.heap.size]? = some (.cells #[.string (I p.num), .string (dn p)] 42) := by rw [← hW0]; exact heap_alloc_new w _
 have C0 : Hid (Below w.heap.size w W0) := by rw [Hid, ← hW0]; exact (Below.refl _ w).alloc (Nat.le_refl _) _
 have b0 := Lib.cell_of_heap hk0 0
 have b1 := Lib.cell_of_heap hk0 1
 simp at b0 b1
 unfold fenc at H1
 show Calls Tryz.prog 173 #[.agg #[.string (I p.num), .string (dn p)]] w _
 obtain ⟨fl, hfl⟩ : ∃ fl, p.num / (p.den : Int) = fl := ⟨_, rfl⟩
 rw [hfl] at H2 H3 H4 t1 ⊢
 clear h hk hdp hz1 hk0 hfl
 go_enter Tryz.func173, Tryz.ntmps173
 go_wp2_with fail
 try rw [hW0]
 refine (H1.out _).mono ?_
 rintro e w1 ⟨rfl, c1⟩
 have C1 := Lib.hid (C0.out.trans (c1.mono C0.out.size))
 clear c1 C0 H1 b0 b1 hW0
 go_wp2_with fail
 refine (H2.out _).mono ?_
 rintro e w2 ⟨rfl, c2⟩
 have C2 := Lib.hid (C1.out.trans (c2.mono C1.out.size))
 clear c2 C1 H2
 go_wp2_with fail
 refine (H3.out _).mono ?_
 rintro e w3 ⟨rfl, c3⟩
 have C3 := Lib.hid (C2.out.trans (c3.mono C2.out.size))
 clear c3 C2 H3
 go_wp2_with fail
 refine (H4.out _).mono ?_
 rintro e w4 ⟨rfl, rfl⟩
 go_wp2_with fail
 go_ret
 exact ⟨rfl, C3.out⟩
set_option maxHeartbeats 2000000 in
theorem rfCompareQ {p q : Rat} {k : Nat} (h : BdQ p k) (h' : BdQ q k) (hk : k ≤ 20000) (w : World) : Calls Tryz.prog 176 #[fenc p, fenc q] w fun e w' => e = .returned (.int .i64 (cmpI (p.num * (q.den : Int)) (q.num * (p.den : Int)))) ∧ Below w.heap.size w w' := by
 have H1 := Lib.hid (fun W => rRawQ h (by omega) W)
 have H2 := Lib.hid (fun W => rRawQ h' (by omega) W)
 have H3 := Lib.hid (fun W => rMulI (x := p.num) (y := (q.den : Int)) h.1 (den_lt h') (by omega) (by omega) W)
 have H4 := Lib.hid (fun W => rMulI (x := q.num) (y := (p.den : Int)) h'.1 (den_lt h) (by omega) (by omega) W)
 have H5 := fun W => rCompare_any (I (p.num * (q.den : Int))) (I (q.num * (p.den : Int))) (by have := I_size_le (mul_lt_pow h.1 (den_lt h')); omega) (by have := I_size_le (mul_lt_pow h'.1 (den_lt h)); omega) W
 rw [vl_I, vl_I] at H5
 have H5 := Lib.hid H5
 clear h h' hk
 obtain ⟨W0, hW0, hb0, hs0, k0, k1⟩ := box2 w (.cells #[.string (I p.num), .string (dn p)] 42) (.cells #[.string (I q.num), .string (dn q)] 42)
 have a0 := Lib.cell_of_heap k0 0
 have a1 := Lib.cell_of_heap k0 1
 have b0 := Lib.cell_of_heap k1 0
 have b1 := Lib.cell_of_heap k1 1
 simp at a0 a1 b0 b1
 have HB := Lib.hid hb0
 clear hb0 k0 k1 hs0
 unfold fenc at H1 H2
 show Calls Tryz.prog 176 #[.agg #[.string (I p.num), .string (dn p)], .agg #[.string (I q.num), .string (dn q)]] w _
 go_enter Tryz.func176, Tryz.ntmps176
 go_wp2_with fail
 try rw [← hW0]
 refine (H1.out _).mono ?_
 rintro e w1 ⟨rfl, c1⟩
 have e0 := (c1.cell (cell_lt b0)).trans b0
 have e1 := (c1.cell (cell_lt b1)).trans b1
 have C1 := Lib.hid (HB.out.trans (c1.mono HB.out.size))
 clear c1 a0 a1 b0 b1 HB H1 hW0
 go_wp2_with fail
 refine (H2.out _).mono ?_
 rintro e w2 ⟨rfl, c2⟩
 have C2 := Lib.hid (C1.out.trans (c2.mono C1.out.size))
 clear c2 e0 e1 C1 H2
 go_wp2_with fail
 refine (H3.out _).mono ?_
 rintro e w3 ⟨rfl, c3⟩
 have C3 := Lib.hid (C2.out.trans (c3.mono C2.out.size))
 clear c3 C2 H3
 go_wp2_with fail
 refine (H4.out _).mono ?_
 rintro e w4 ⟨rfl, c4⟩
 have C4 := Lib.hid (C3.out.trans (c4.mono C3.out.size))
 clear c4 C3 H4
 go_wp2_with fail
 refine (H5.out _).mono ?_
 rintro e w5 ⟨rfl, rfl⟩
 go_wp2_with fail
 go_ret
 exact ⟨rfl, C4.out⟩
end Go.Proofs.YthmfkgcoocikjaaGreatDoor
namespace Go.Proofs.YthmfkgcoocikjaaGreatDoor
open Go.RowKit Tr Go.Shelf
theorem last_byte {z : Int} (h : z ≠ 0) : ∃ m, (I z).size = m + 1 ∧ (byt (I z) m).toNat = 48 + z.natAbs % 10 := by
 have hp : 0 < z.natAbs := by omega
 have hd := digits_pos hp
 have hl : (I z).data.toList = can z := by unfold I; exact bs_data _
 have hs : (I z).size = (can z).length := by rw [Lib.size_eq, hl]
 have hc : ∃ pre, can z = pre ++ [dchar (z.natAbs % 10)] := by
  unfold can
  split
  ·exact ⟨45 :: digits (z.natAbs / 10), by rw [hd]; rfl⟩
  ·exact ⟨_, hd⟩
 obtain ⟨pre, hpre⟩ := hc
 refine ⟨pre.length, by rw [hs, hpre]; simp, ?_⟩
 unfold byt
 rw [hl, hpre, List.getD_eq_getElem?_getD, List.getElem?_append_right (Nat.le_refl _)]
 simp
 exact toNat_dchar (Nat.mod_lt _ (by omega))
theorem even_nat (z : Int) : (z % 2 = 0) ↔ (z.natAbs % 10 % 2 = 0) := by omega
set_option maxHeartbeats 2000000 in
theorem reven_any (z : Int) (hz : (I z).size ≤ 1000000) (w : World) : Calls Tryz.prog 177 #[.string (I z)] w fun e w' => e = .returned (.bool (decide (z % 2 = 0))) ∧ w = w' := by
 have H1 := fun W => rCanonical_any (I z) hz W
 rw [vl_I] at H1
 have H1 := Lib.hid H1
 by_cases h0 : z = 0
 ·subst h0
  have q6 : ((I 0).toList == []) = true := by rw [toList_nil]; rfl
  clear hz
  go_enter Tryz.func177, Tryz.ntmps177
  go_wp2_with fail
  refine (H1.out _).mono ?_
  rintro e w1 ⟨rfl, rfl⟩
  go_wp2_with fail
  go_ret
  exact ⟨rfl, rfl⟩
 ·obtain ⟨m, hm, hb⟩ := last_byte h0
  have q6 : ((I z).toList == []) = false := by rw [toList_nil]; exact decide_eq_false h0
  have he := even_nat z
  obtain ⟨d, hd⟩ : ∃ d, z.natAbs % 10 = d := ⟨_, rfl⟩
  have hd10 : d < 10 := by omega
  rw [hd] at hb he
  have HE := Lib.hid he
  obtain ⟨s, hs⟩ : ∃ s, I z = s := ⟨_, rfl⟩
  rw [hs] at hm hb q6 H1 hz ⊢
  have hlt : m < s.size := by omega
  have hg : (s[m]'hlt).toNat = 48 + d := by rw [byt_get]; exact hb
  clear h0 hd he hb hs
  by_cases h2 : d % 2 = 0
  ·have HR : Hid (decide (z % 2 = 0) = true) := decide_eq_true (HE.out.2 h2)
   have t1 : ((48 + (d : Int) - 48) % 2 == 0) = true := by rw [beq_iff_eq]; omega
   clear h2
   go_enter Tryz.func177, Tryz.ntmps177
   go_wp2_with fail
   refine (H1.out _).mono ?_
   rintro e w1 ⟨rfl, rfl⟩
   go_wp2_with fail
   go_ret
   exact ⟨by rw [HR.out]; rfl, rfl⟩
  ·have HR : Hid (decide (z % 2 = 0) = false) := decide_eq_false (fun e => h2 (HE.out.1 e))
   have t1 : ((48 + (d : Int) - 48) % 2 == 0) = false := by rw [beq_eq_false_iff_ne]; omega
   clear h2
   go_enter Tryz.func177, Tryz.ntmps177
   go_wp2_with fail
   refine (H1.out _).mono ?_
   rintro e w1 ⟨rfl, rfl⟩
   go_wp2_with fail
   go_ret
   exact ⟨by rw [HR.out]; rfl, rfl⟩
theorem rest_eq (p : Rat) : p - ((p.num / (p.den : Int) : Int) : Rat) = Rat.divInt (p.num % (p.den : Int)) (p.den : Int) := by
 have hd : (p.den : Int) ≠ 0 := by have := p.den_pos; omega
 rw [show p - ((p.num / (p.den : Int) : Int) : Rat) = Rat.divInt p.num (p.den : Int) - Rat.divInt (p.num / (p.den : Int)) 1 from by rw [of_eq, ← q_divInt p]]
 rw [Rat.divInt_sub_divInt _ _ hd (by omega)]
 congr 1
 ·have := Int.emod_add_mul_ediv p.num (p.den : Int)
  rw [Int.mul_one]
  generalize p.num / (p.den : Int) = x at *
  rw [Int.mul_comm x]
  omega
 ·omega
theorem rest_parts (p : Rat) : (p - ((p.num / (p.den : Int) : Int) : Rat)).num = p.num % (p.den : Int) ∧ (p - ((p.num / (p.den : Int) : Int) : Rat)).den = p.den := by
 have hd : 0 < (p.den : Int) := by have := p.den_pos; omega
 have hg : Int.gcd (p.num % (p.den : Int)) (p.den : Int) = 1 := by
  obtain ⟨g, hgd⟩ : ∃ g, Int.gcd (p.num % (p.den : Int)) (p.den : Int) = g := ⟨_, rfl⟩
  have h1 : (g : Int) ∣ p.num % (p.den : Int) := by rw [← hgd]; exact Int.gcd_dvd_left ..
  have h2 : (g : Int) ∣ (p.den : Int) := by rw [← hgd]; exact Int.gcd_dvd_right ..
  have h3 : (g : Int) ∣ p.num := by
   rw [← Int.emod_add_mul_ediv p.num (p.den : Int)]
   exact Int.dvd_add h1 (Int.dvd_trans h2 (Int.dvd_mul_right _ _))
  have h4 : g ∣ p.num.natAbs := Int.ofNat_dvd_left.1 h3
  have h5 : g ∣ p.den := Int.natCast_dvd_natCast.1 h2
  have h6 : g ∣ 1 := by
   have := Nat.dvd_gcd h4 h5
   rwa [show Nat.gcd p.num.natAbs p.den = 1 from p.reduced] at this
  rw [hgd]
  exact Nat.dvd_one.1 h6
 rw [rest_eq]
 have e1 := red_num (a := p.num % (p.den : Int)) hd
 have e2 := red_den (a := p.num % (p.den : Int)) hd
 rw [hg, dq_pos (by omega)] at e1 e2
 constructor
 ·rw [← e1]; simp
 ·have : ((Rat.divInt (p.num % (p.den : Int)) (p.den : Int)).den : Int) = (p.den : Int) := by rw [← e2]; simp
  omega
theorem rnd_rest (p : Rat) : rnd p = if (p.den : Int) < 2 * (p.num % (p.den : Int)) ∨ ((p.den : Int) = 2 * (p.num % (p.den : Int)) ∧ p.num / (p.den : Int) % 2 ≠ 0) then p.num / (p.den : Int) + 1 else p.num / (p.den : Int) := rfl
end Go.Proofs.YthmfkgcoocikjaaGreatDoor
namespace Go.Proofs.YthmfkgcoocikjaaGreatDoor
open Go.RowKit Tr Go.Shelf
def BX (w : World) (l : List (Nat × Obj)) (W : World) : Prop := Below w.heap.size w W ∧ ∀ x, x ∈ l → W.heap[x.1]? = some x.2
theorem BX.below {w : World} {l : List (Nat × Obj)} {W W' : World} (h : BX w l W) (hb : Below W.heap.size W W') : BX w l W' :=
 ⟨h.1.trans (hb.mono h.1.size), fun x hx => (hb.block _ (Array.getElem?_eq_some_iff.1 (h.2 x hx)).1).trans (h.2 x hx)⟩
theorem BX.push {w : World} {l : List (Nat × Obj)} {W : World} (h : BX w l W) (o : Obj) : BX w ((W.heap.size, o) :: l) (W.alloc o) := by
 have h2 := h.below ((Below.refl _ W).alloc (Nat.le_refl _) o)
 refine ⟨h2.1, fun x hx => ?_⟩
 rcases List.mem_cons.1 hx with rfl | hx
 ·exact heap_alloc_new W o
 ·exact h2.2 x hx
theorem BX.get {w : World} {l : List (Nat × Obj)} {W : World} (h : BX w l W) (k : Nat) {b : Nat} {o : Obj} (hk : l[k]? = some (b, o)) : W.heap[b]? = some o := h.2 _ (List.mem_of_getElem? hk)
theorem BX.lt {w : World} {l : List (Nat × Obj)} {W : World} (h : BX w l W) (k : Nat) {b : Nat} {o : Obj} (hk : l[k]? = some (b, o)) : b < W.heap.size := (Array.getElem?_eq_some_iff.1 (h.get k hk)).1
abbrev fobj (q : Rat) : Obj := .cells #[.string (I q.num), .string (dn q)] 42 (0, 0)
abbrev fz : Obj := .cells #[.string ⟨#[]⟩, .string ⟨#[]⟩] 42 (0, 0)
theorem BX.set2 {w : World} {l : List (Nat × Obj)} {W : World} {B : Nat} {a b : Value} {t : TypeId} {m : Nat × Nat} (h : BX w l W) (hB : w.heap.size ≤ B) (hk : W.heap[B]? = some (.cells #[a, b] t m)) (hn : ∀ x, x ∈ l → x.1 ≠ B) (x y : Value) :
 BX w ((B, .cells #[x, y] t m) :: l) ((W.setCell ⟨B, 0, none⟩ x).setCell ⟨B, 1, none⟩ y) := by
 refine ⟨set2_below hB h.1 _ _, fun z hz => ?_⟩
 rcases List.mem_cons.1 hz with rfl | hz
 ·exact Go.Proofs.YthmfkgcoocikjaaGreatDoor.set2 hk _ _
 ·exact (set2_far (hn z hz) _ _).trans (h.2 z hz)
theorem BX.calls {w : World} {l : List (Nat × Obj)} {f : Nat} {args : Array Value} {v : Value} (h : ∀ W, Calls Tryz.prog f args W fun e w' => e = .returned v ∧ Below W.heap.size W w') :
 ∀ W, BX w l W → Calls Tryz.prog f args W fun e wn => e = .returned v ∧ BX w l wn ∧ Below W.heap.size W wn := by
 intro W hW
 refine (h W).mono ?_
 rintro e wn ⟨rfl, bn⟩
 exact ⟨rfl, hW.below bn, bn⟩
abbrev RP (w : World) (p : Rat) (W : World) : Prop := BX w [(w.heap.size, fobj p)] W
theorem RP.two {w : World} {p : Rat} {W : World} (h : RP w p W) : W.cell? ⟨w.heap.size, 0, none⟩ = some (.string (I p.num)) ∧ W.cell? ⟨w.heap.size, 1, none⟩ = some (.string (dn p)) :=
 ⟨Lib.cell_of_heap (h.get 0 rfl) 0, Lib.cell_of_heap (h.get 0 rfl) 1⟩
theorem RP.calls {w : World} {p : Rat} {f : Nat} {args : Array Value} {v : Value} (h : ∀ W, Calls Tryz.prog f args W fun e w' => e = .returned v ∧ Below W.heap.size W w') :
 ∀ W, RP w p W → Calls Tryz.prog f args W fun e wn => e = .returned v ∧ RP w p wn ∧ Below W.heap.size W wn ∧ wn.cell? ⟨w.heap.size, 0, none⟩ = some (.string (I p.num)) ∧ wn.cell? ⟨w.heap.size, 1, none⟩ = some (.string (dn p)) := by
 intro W hW
 refine (h W).mono ?_
 rintro e wn ⟨rfl, bn⟩
 have := hW.below bn
 exact ⟨rfl, this, bn, RP.two this⟩
theorem half_num : (Rat.divInt 1 2).num = 1 ∧ (Rat.divInt 1 2).den = 2 := by constructor <;> kernel_rfl
theorem zero_nd : ((0 : Int) : Rat).num = 0 ∧ ((0 : Int) : Rat).den = 1 := ⟨rfl, rfl⟩
set_option maxHeartbeats 8000000 in
set_option maxRecDepth 100000 in
theorem rRoundTo_any {p : Rat} {k : Nat} (h : BdQ p k) (hk1 : 1 ≤ k) (hk : k ≤ 9000) (w : World) : Calls Tryz.prog 139 #[fenc p, .int .i64 1] w fun e w' => e = .returned (.string (I (rnd p))) ∧ Below w.heap.size w w' := by
 have hdp : 0 < p.den := p.den_pos
 obtain ⟨r1, r2⟩ := rest_parts p
 have hfb := ediv_lt h.1 hdp
 have H1 := fun W => rFloorQ h (by omega) W
 have H2 := fun W => rfOf_any (I (p.num / (p.den : Int))) (by have := I_size_le hfb; omega) W
 rw [vl_I] at H2
 have H3 := fun W => rfSubQ (h.mono (show k ≤ k + 1 by omega)) (BdQ.int hfb (by omega)) (by omega) W
 have H4 := Lib.hid (fun W => rfOf_any ⟨#[]⟩ (by show 0 ≤ _; omega) W)
 rw [show vl (⟨#[]⟩ : ByteArray) = 0 from by rw [zero_eq, vl_I]] at H4
 have hrem : p.num % (p.den : Int) < (p.den : Int) ∧ 0 ≤ p.num % (p.den : Int) := ⟨Int.emod_lt_of_pos _ (by omega), Int.emod_nonneg _ (by omega)⟩
 have hrb : BdQ (p - ((p.num / (p.den : Int) : Int) : Rat)) k := by
  refine ⟨?_, ?_⟩
  ·rw [r1]; have := h.2; omega
  ·rw [r2]; exact h.2
 have hzb : BdQ ((0 : Int) : Rat) k := BdQ.zero hk1
 have hhb : BdQ (Rat.divInt 1 2) k := by
  have : 10 ^ 1 ≤ 10 ^ k := Nat.pow_le_pow_right (by omega) hk1
  refine ⟨?_, ?_⟩
  ·rw [half_num.1]; show 1 < _; omega
  ·rw [half_num.2]; omega
 have H5 := fun W => rfCompareQ hrb hzb (by omega) W
 have H6 := fun W => rAddI (x := p.num / (p.den : Int)) (y := 1) (a := k + 1) hfb (by show 1 < _; exact Nat.lt_of_lt_of_le (show 1 < 10 ^ 1 by omega) (Nat.pow_le_pow_right (by omega) (by omega))) (by omega) W
 have H7 := Lib.hid (fun W => rfNewI (x := 1) (y := 2) (a := 1) (by decide) (by decide) (by omega) (by omega) W)
 have H8 := fun W => rfCompareQ hrb hhb (by omega) W
 have H9 := fun W => rfCompareQ h hzb (by omega) W
 have H10 := Lib.hid (fun W => reven_any (p.num / (p.den : Int)) (by have := I_size_le hfb; omega) W)
 have HR := Lib.hid (rnd_rest p)
 rw [r1, r2, zero_nd.1, zero_nd.2] at H5
 rw [r1, r2, half_num.1, half_num.2] at H8
 obtain ⟨fl, hfl⟩ : ∃ fl, p.num / (p.den : Int) = fl := ⟨_, rfl⟩
 obtain ⟨re, hre⟩ : ∃ re, p.num % (p.den : Int) = re := ⟨_, rfl⟩
 obtain ⟨de, hde⟩ : ∃ de : Int, (p.den : Int) = de := ⟨_, rfl⟩
 rw [hfl] at H1 H2 H3 H5 H6 H8 H10 HR
 rw [hre] at H5 H8 HR hrem
 rw [hde] at H5 H8 HR hrem
 rw [show cmpI (re * ((1 : Nat) : Int)) (0 * de) = cmpI re 0 from by rw [Int.zero_mul]; simp] at H5
 rw [show cmpI (re * ((2 : Nat) : Int)) (1 * de) = cmpI (re * 2) de from by rw [Int.one_mul]; rfl] at H8
 obtain ⟨rr, hrr⟩ : ∃ rr : Rat, p - ((fl : Int) : Rat) = rr := ⟨_, rfl⟩
 obtain ⟨rf, hrf⟩ : ∃ rf : Rat, ((fl : Int) : Rat) = rf := ⟨_, rfl⟩
 obtain ⟨rz, hrz⟩ : ∃ rz : Rat, ((0 : Int) : Rat) = rz := ⟨_, rfl⟩
 obtain ⟨rh, hrh⟩ : ∃ rh : Rat, Rat.divInt 1 2 = rh := ⟨_, rfl⟩
 rw [hrr] at H3 H5 H8
 rw [hrf] at H2 H3
 rw [hrz] at H4 H5 H9
 rw [hrh] at H7 H8
 unfold fenc at H1 H2 H3 H4 H5 H7 H8 H9 ⊢
 have HC1 := Lib.hid (RP.calls (w := w) (p := p) H1)
 have HC2 := Lib.hid (RP.calls (w := w) (p := p) H2)
 have HC3 := Lib.hid (RP.calls (w := w) (p := p) H3)
 replace H5 := Lib.hid H5
 replace H6 := Lib.hid H6
 replace H8 := Lib.hid H8
 replace H9 := Lib.hid H9
 have HRE := Lib.hid hrem
 have hg : RP w p (w.alloc (fobj p)) := ⟨(Below.refl _ w).alloc (Nat.le_refl _) _, fun x hx => by
  rcases List.mem_cons.1 hx with rfl | hx
  ·exact heap_alloc_new w _
  ·cases hx⟩
 obtain ⟨W0, hW0⟩ : ∃ W0, w.alloc (fobj p) = W0 := ⟨_, rfl⟩
 rw [hW0] at hg
 obtain ⟨a0, a1⟩ := RP.two hg
 generalize cmpI (p.num * ((rz.den : Nat) : Int)) (rz.num * ((p.den : Nat) : Int)) = cneg at H9
 clear h hk1 hk hdp r1 r2 hfb H1 H2 H3 hrb hzb hhb hfl hre hde hrr hrf hrz hrh hrem
 go_enter Tryz.func139, Tryz.ntmps139
 go_wp2_with fail
 refine (HC1.out _ hg).mono ?_
 clear hg a0 a1
 rintro e w1 ⟨rfl, hg, _, a0, a1⟩
 go_wp2_with fail
 go_cut [6] (fun v6 wx => ∃ (B : Nat) (wr : World), v6 = .pointer (some ⟨B, 0, none⟩) ∧ w.heap.size < B ∧ BX w [(B, fobj rr), (w.heap.size, fobj p)] wr ∧ wr = wx)
 case first =>
  have ne1 : w1.heap.size ≠ w.heap.size := by have := hg.lt 0 rfl; omega
  have lt1 : w.heap.size < w1.heap.size := hg.lt 0 rfl
  replace hg : RP w p w1.drew := hg.below (Below.refl _ _).drew
  go_region_held3 (fun W => W.cell? ⟨w.heap.size, 0, none⟩ = some (.string (I p.num)) ∧ W.cell? ⟨w.heap.size, 1, none⟩ = some (.string (dn p)))
   (((try dsimp only); refine ⟨?_, ?_⟩ <;> first | assumption | (simp [*, World.cell?_alloc_some, World.cell?_setCell_far]; done) | (go_simp; done)))
   (first
     | (go_at_call_of 175 [Value.string (I fl)]; refine (HC2.out _ ?_).mono ?_; (first | exact hg | exact hg.below ((Below.refl _ _).alloc (Nat.le_refl _) _)); clear hg a0 a1; rintro e wn ⟨rfl, hg, bn, a0, a1⟩; have ne1 : wn.heap.size ≠ w.heap.size := (by have := hg.lt 0 rfl; omega); have lt1 : w.heap.size < wn.heap.size := hg.lt 0 rfl; (first | (have nb := (bn.block _ (Array.getElem?_eq_some_iff.1 nb).1).trans nb; have n0 := Lib.cell_of_heap nb 0; have n1 := Lib.cell_of_heap nb 1; have n2 := Lib.frozen_of_heap nb 0; have n3 := Lib.frozen_of_heap nb 1; simp at n0 n1 n2 n3) | (have nb := (bn.block _ (by simp)).trans (heap_alloc_new _ _); have n0 := Lib.cell_of_heap nb 0; have n1 := Lib.cell_of_heap nb 1; have n2 := Lib.frozen_of_heap nb 0; have n3 := Lib.frozen_of_heap nb 1; simp at n0 n1 n2 n3) | skip); clear bn)
     | (go_at_call_of 174 [Value.agg #[Value.string (I p.num), Value.string (dn p)], Value.agg #[Value.string (I rf.num), Value.string (dn rf)]]; refine (HC3.out _ ?_).mono ?_; (first | exact hg | exact hg.below ((Below.refl _ _).alloc (Nat.le_refl _) _)); clear hg a0 a1; rintro e wn ⟨rfl, hg, bn, a0, a1⟩; have ne1 : wn.heap.size ≠ w.heap.size := (by have := hg.lt 0 rfl; omega); have lt1 : w.heap.size < wn.heap.size := hg.lt 0 rfl; (first | (have nb := (bn.block _ (Array.getElem?_eq_some_iff.1 nb).1).trans nb; have n0 := Lib.cell_of_heap nb 0; have n1 := Lib.cell_of_heap nb 1; have n2 := Lib.frozen_of_heap nb 0; have n3 := Lib.frozen_of_heap nb 1; simp at n0 n1 n2 n3) | (have nb := (bn.block _ (by simp)).trans (heap_alloc_new _ _); have n0 := Lib.cell_of_heap nb 0; have n1 := Lib.cell_of_heap nb 1; have n2 := Lib.frozen_of_heap nb 0; have n3 := Lib.frozen_of_heap nb 1; simp at n0 n1 n2 n3) | skip); clear bn))
  all_goals (first | go_wp2_with fail | skip)
  all_goals go_meet
  all_goals first
   | exact ⟨_, _, rfl, lt1, hg.push _, rfl⟩
   | (refine ⟨_, _, rfl, ?_, hg.set2 ?_ nb ?_ _ _, rfl⟩ <;> first | assumption | omega | (intro x hx; simp at hx; rcases hx with rfl; simp; omega) | (simp; omega))
 case rest =>
  obtain ⟨B, wr, rfl, hBB, hg, rfl⟩ := hcut
  clear a0 a1 HC1 HC2 HC3 hW0
  go_wp2_with fail
  refine (H4.out _).mono ?_
  rintro e w3 ⟨rfl, b3⟩
  replace hg := hg.below b3
  clear b3 H4
  have HG := Lib.hid hg
  clear hg
  go_upto_region 4 with fail
  have hg := HG.out.push (fobj rz)
  generalize w3.heap.size = B3 at hg ⊢
  generalize w3.alloc (fobj rz) = W4 at hg ⊢
  have z0 := Lib.cell_of_heap (hg.get 0 rfl) 0
  have z1 := Lib.cell_of_heap (hg.get 0 rfl) 1
  have r0 := Lib.cell_of_heap (hg.get 1 rfl) 0
  have r1 := Lib.cell_of_heap (hg.get 1 rfl) 1
  simp at z0 z1 r0 r1
  replace HG := Lib.hid hg
  clear hg
  go_wp2_with fail
  refine (H5.out _).mono ?_
  rintro e w5 ⟨rfl, b5⟩
  replace HG := Lib.hid (HG.out.below b5)
  clear b5 z0 z1 r0 r1 H5
  by_cases h0 : re = 0
  ·have t0 : (cmpI re 0 == 0) = true := beq_iff_eq.2 (cmpI_eq.2 h0)
   have HZ := Lib.hid h0
   clear h0
   go_wp2_with fail
   go_ret
   refine ⟨?_, HG.out.1⟩
   rw [HR.out, if_neg (by have := HZ.out; have := HRE.out; omega)]
   rfl
  have t0 : (cmpI re 0 == 0) = false := beq_eq_false_iff_ne.2 (fun e => h0 (cmpI_eq.1 e))
  clear h0
  go_wp2_with fail
  refine (H6.out _).mono ?_
  rintro e w6 ⟨rfl, b6⟩
  replace HG := Lib.hid (HG.out.below b6)
  clear b6 H6 t0
  go_wp2_with fail
  refine (H7.out _).mono ?_
  rintro e w7 ⟨rfl, b7⟩
  replace HG := Lib.hid (HG.out.below b7)
  clear b7 H7
  go_upto_region 8 with fail
  have hg := HG.out.push (fobj rh)
  generalize w7.heap.size = B7 at hg ⊢
  generalize w7.alloc (fobj rh) = W8 at hg ⊢
  have h0 := Lib.cell_of_heap (hg.get 0 rfl) 0
  have h1 := Lib.cell_of_heap (hg.get 0 rfl) 1
  have r0 := Lib.cell_of_heap (hg.get 2 rfl) 0
  have r1 := Lib.cell_of_heap (hg.get 2 rfl) 1
  simp at h0 h1 r0 r1
  replace HG := Lib.hid hg
  clear hg
  go_wp2_with fail
  refine (H8.out _).mono ?_
  rintro e w8 ⟨rfl, b8⟩
  replace HG := Lib.hid (HG.out.below b8)
  clear b8 H8 h0 h1 r0 r1
  have z0 := Lib.cell_of_heap (HG.out.get 1 rfl) 0
  have z1 := Lib.cell_of_heap (HG.out.get 1 rfl) 1
  have a0 := Lib.cell_of_heap (HG.out.get 3 rfl) 0
  have a1 := Lib.cell_of_heap (HG.out.get 3 rfl) 1
  simp at z0 z1 a0 a1
  go_wp2_with fail
  refine (H9.out _).mono ?_
  rintro e w9 ⟨rfl, b9⟩
  replace HG := Lib.hid (HG.out.below b9)
  clear b9 H9 z0 z1 a0 a1
  obtain ⟨c, hc⟩ : ∃ c, cmpI (re * 2) de = c := ⟨_, rfl⟩
  rw [hc]
  have HC := Lib.hid hc
  clear hc
  rcases Int.lt_trichotomy c 0 with hl | hl | hl
  ·have t1 : decide (0 < c) = false := decide_eq_false (by omega)
   have t2 : (c == 0) = false := beq_eq_false_iff_ne.2 (by omega)
   have HL : Hid (re * 2 < de) := cmpI_lt.1 (by rw [HC.out]; exact hl)
   clear hl
   go_wp2_with fail
   go_ret
   refine ⟨?_, HG.out.1⟩
   rw [HR.out, if_neg (by have := HL.out; omega)]
   rfl
  ·have t1 : decide (0 < c) = false := decide_eq_false (by omega)
   have t2 : (c == 0) = true := beq_iff_eq.2 hl
   have HL : Hid (re * 2 = de) := cmpI_eq.1 (by rw [HC.out]; exact hl)
   clear hl
   go_wp2_with fail
   refine (H10.out _).mono ?_
   rintro e w10 ⟨rfl, rfl⟩
   by_cases he : fl % 2 = 0
   ·rw [decide_eq_true he]
    have HE := Lib.hid he
    clear he
    go_wp2_with fail
    go_ret
    refine ⟨?_, HG.out.1⟩
    rw [HR.out, if_neg (by have := HL.out; have := HE.out; omega)]
    rfl
   ·rw [decide_eq_false he]
    have HE := Lib.hid he
    clear he
    go_wp2_with fail
    go_ret
    refine ⟨?_, HG.out.1⟩
    rw [HR.out, if_pos (.inr ⟨by have := HL.out; omega, HE.out⟩)]
    rfl
  ·have t1 : decide (0 < c) = true := decide_eq_true hl
   have HL : Hid (de < re * 2) := cmpI_gt.1 (by rw [HC.out]; exact hl)
   clear hl
   go_wp2_with fail
   go_ret
   refine ⟨?_, HG.out.1⟩
   rw [HR.out, if_pos (.inl (by have := HL.out; omega))]
   rfl
end Go.Proofs.YthmfkgcoocikjaaGreatDoor
