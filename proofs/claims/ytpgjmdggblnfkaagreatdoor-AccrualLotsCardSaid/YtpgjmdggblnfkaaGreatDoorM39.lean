/-
  The walks of trancheref02.Sub, Canonical, New, Floor, Compare on canonical fractions of any length. (Printed by gen_ref30.py.)
  The walk of trancheref03.even; the plain side of rounding.
  The walk of trancheref03.RoundTo, to the nearest integer. (Printed by gen_ref33.py.)
  The walks of trancheref39.times, round, day.
  The walk of trancheref39.Exact. (Printed by gen_ref36.py.)
-/
import Derived.Test.YtpgjmdggblnfkaaGreatDoorLA6
import Derived.Test.YtpgjmdggblnfkaaGreatDoorM20
import Derived.Test.YtpgjmdggblnfkaaGreatDoorM27
import Derived.Deep.DeepCutAuto
import Derived.Deep.RegionHeld3
import Derived.Test.YtpgjmdggblnfkaaGreatDoorL13
set_option linter.unusedVariables false
set_option linter.unusedSimpArgs false
set_option maxHeartbeats 16000000
set_option maxRecDepth 100000
namespace Go.Proofs.YtpgjmdggblnfkaaGreatDoor
open Go.RowKit Tr Go.Shelf
structure SBx (w : World) (p q : Rat) (W : World) : Prop where
 k0 : W.heap[w.heap.size]? = some (.cells #[.string (I p.num), .string (dn p)] 25 (0, 0))
 k1 : W.heap[w.heap.size + 1]? = some (.cells #[.string (I q.num), .string (dn q)] 25 (0, 0))
 k2 : W.heap[w.heap.size + 1 + 1]? = some (.cells #[.string ⟨#[]⟩, .string ⟨#[]⟩] 25 (0, 0))
 bel : Below w.heap.size w W
theorem SBx.below {w : World} {p q : Rat} {W W' : World} (h : SBx w p q W) (hb : Below W.heap.size W W') : SBx w p q W' :=
 ⟨(hb.block _ (Array.getElem?_eq_some_iff.1 h.k0).1).trans h.k0, (hb.block _ (Array.getElem?_eq_some_iff.1 h.k1).1).trans h.k1, (hb.block _ (Array.getElem?_eq_some_iff.1 h.k2).1).trans h.k2, h.bel.trans (hb.mono h.bel.size)⟩
theorem SBx.calls {w : World} {p q : Rat} {f : Nat} {args : Array Value} {v : Value} (h : ∀ W, Calls Tryz.prog f args W fun e w' => e = .returned v ∧ Below W.heap.size W w') :
 ∀ W, SBx w p q W → Calls Tryz.prog f args W fun e wn => e = .returned v ∧ SBx w p q wn ∧ (wn.cell? ⟨w.heap.size, 0, none⟩ = some (.string (I p.num)) ∧ wn.cell? ⟨w.heap.size, 1, none⟩ = some (.string (dn p)) ∧ wn.cell? ⟨w.heap.size + 1, 0, none⟩ = some (.string (I q.num)) ∧ wn.cell? ⟨w.heap.size + 1, 1, none⟩ = some (.string (dn q))) ∧ wn.cell? ⟨w.heap.size + 1 + 1, 0, none⟩ = some (.string ⟨#[]⟩) ∧ wn.cell? ⟨w.heap.size + 1 + 1, 1, none⟩ = some (.string ⟨#[]⟩) ∧ wn.frozen? ⟨w.heap.size + 1 + 1, 0, none⟩ = false ∧ wn.frozen? ⟨w.heap.size + 1 + 1, 1, none⟩ = false := by
 intro W hW
 refine (h W).mono ?_
 rintro e wn ⟨rfl, bn⟩
 have hn := hW.below bn
 exact ⟨rfl, hn, ⟨Lib.cell_of_heap hn.k0 0, Lib.cell_of_heap hn.k0 1, Lib.cell_of_heap hn.k1 0, Lib.cell_of_heap hn.k1 1⟩, Lib.cell_of_heap hn.k2 0, Lib.cell_of_heap hn.k2 1, Lib.frozen_of_heap hn.k2 0, Lib.frozen_of_heap hn.k2 1⟩
theorem rfSubQ {p q : Rat} {k : Nat} (h : BdQ p k) (h' : BdQ q k) (hk : k ≤ 20000) (w : World) : Calls Tryz.prog 124 #[fenc p, fenc q] w fun e w' => e = .returned (fenc (p - q)) ∧ Below w.heap.size w w' := by
 have C1 := fun W => rfNegQ h' (by omega) W
 have C2 := fun W => rfAddQ h h'.neg hk W
 rw [← Rat.sub_eq_add_neg] at C2
 have HC1 := Lib.hid (SBx.calls (w := w) (p := p) (q := q) C1)
 have HC2 := Lib.hid (SBx.calls (w := w) (p := p) (q := q) C2)
 obtain ⟨rn, hrn⟩ : ∃ rn, -q = rn := ⟨_, rfl⟩
 obtain ⟨rq, hrq⟩ : ∃ rq, p - q = rq := ⟨_, rfl⟩
 rw [hrn] at HC1 HC2
 rw [hrq] at HC2 ⊢
 clear h h' hk C1 C2 hrn hrq
 obtain ⟨W0, hW0, hb0, hs0, k0, k1, k2⟩ := box3 w (.cells #[.string (I p.num), .string (dn p)] 25) (.cells #[.string (I q.num), .string (dn q)] 25) (.cells #[.string ⟨#[]⟩, .string ⟨#[]⟩] 25)
 have hg0 : SBx w p q W0 := ⟨k0, k1, k2, hb0⟩
 have b0 := Lib.cell_of_heap k0 0
 have b1 := Lib.cell_of_heap k0 1
 have d0 := Lib.cell_of_heap k1 0
 have d1 := Lib.cell_of_heap k1 1
 simp at b0 b1 d0 d1
 clear hb0 k0 k1 k2 hs0
 unfold fenc at HC1 HC2 ⊢
 go_enter Tryz.func124, Tryz.ntmps124
 go_wp2_with fail
 rw [← hW0]
 clear hW0
 have hg : SBx w p q W0.drew := hg0.below (Below.refl _ _).drew
 clear hg0
 go_region_held3 (fun W => W.cell? ⟨w.heap.size, 0, none⟩ = some (.string (I p.num)) ∧ W.cell? ⟨w.heap.size, 1, none⟩ = some (.string (dn p)) ∧ W.cell? ⟨w.heap.size + 1, 0, none⟩ = some (.string (I q.num)) ∧ W.cell? ⟨w.heap.size + 1, 1, none⟩ = some (.string (dn q)))
  (((try dsimp only); refine ⟨?_, ?_, ?_, ?_⟩ <;> first | assumption | (go_simp; done)))
  (first
    | (go_at_call 168; refine (HC1.out _ hg).mono ?_; clear hg b0 b1 d0 d1; rintro e wn ⟨rfl, hg, ⟨b0, b1, d0, d1⟩, m0, m1, f0, f1⟩)
    | (go_at_call 167; refine (HC2.out _ hg).mono ?_; clear hg b0 b1 d0 d1; rintro e wn ⟨rfl, hg, ⟨b0, b1, d0, d1⟩, m0, m1, f0, f1⟩))
 go_wp2_with fail
 have k2 := set2 hg.k2 (.string (I rq.num)) (.string (dn rq))
 have j0 := Lib.cell_of_heap k2 0
 have j1 := Lib.cell_of_heap k2 1
 simp at j0 j1
 refine bodyPost_ret (v := .agg #[.string (I rq.num), .string (dn rq)]) (by simp [results, Tryz.results124, go_sem, j0, j1]) rfl ?_
 exact ⟨rfl, (hg.bel.setCell (p := ⟨w.heap.size + 1 + 1, 0, none⟩) (by show w.heap.size ≤ w.heap.size + 1 + 1; omega) _).setCell (p := ⟨w.heap.size + 1 + 1, 1, none⟩) (by show w.heap.size ≤ w.heap.size + 1 + 1; omega) _⟩
theorem raw_int {x y : Int} (h : 0 < y) : rawN (I x) (I y) = I x ∧ rawD (I y) = I y := by
 unfold rawN rawD
 rw [vl_I, if_neg (by omega), if_neg (by omega), if_neg (by omega)]
 exact ⟨rfl, rfl⟩
theorem rfCanonI {x y : Int} {a : Nat} (hx : x.natAbs < 10 ^ a) (hy : y.natAbs < 10 ^ a) (hp : 0 < y) (ha : a ≤ 60000) (w : World) : Calls Tryz.prog 172 #[.agg #[.string (I x), .string (I y)]] w fun e w' => e = .returned (fenc (Rat.divInt x y)) ∧ Below w.heap.size w w' := by
 have H1 := fun W => rRaw_any (I x) (I y) (by have := I_size_le hx; omega) (by have := I_size_le hy; omega) W
 rw [(raw_int (x := x) hp).1, (raw_int (x := x) hp).2] at H1
 have H1 := Lib.hid H1
 have H2 := Lib.hid (fun W => rRedI hx hy hp ha W)
 clear hx hy hp ha
 obtain ⟨W0, hW0, hb0, hs0, k0, k1⟩ := box2 w (.cells #[.string (I x), .string (I y)] 25) (.cells #[.string ⟨#[]⟩, .string ⟨#[]⟩] 25)
 have b0 := Lib.cell_of_heap k0 0
 have b1 := Lib.cell_of_heap k0 1
 simp at b0 b1
 have C0 := Lib.hid hb0
 have K0 := Lib.hid k1
 clear hb0 k0 k1 hs0
 go_enter Tryz.func172, Tryz.ntmps172
 go_wp2_with fail
 try rw [← hW0]
 refine (H1.out _).mono ?_
 rintro e w1 ⟨rfl, c1⟩
 have C1 := Lib.hid (C0.out.trans (c1.mono C0.out.size))
 have K1 := Lib.hid ((c1.block _ (Array.getElem?_eq_some_iff.1 K0.out).1).trans K0.out)
 clear c1 C0 K0 H1 b0 b1 hW0
 go_wp2_with fail
 refine (H2.out _).mono ?_
 rintro e w2 ⟨rfl, c2⟩
 have C2 := Lib.hid (C1.out.trans (c2.mono C1.out.size))
 have K2 := Lib.hid ((c2.block _ (Array.getElem?_eq_some_iff.1 K1.out).1).trans K1.out)
 clear c2 C1 K1 H2
 obtain ⟨rq, hrq⟩ : ∃ rq, Rat.divInt x y = rq := ⟨_, rfl⟩
 rw [hrq]
 have HRQ := Lib.hid hrq
 clear hrq
 have a0 := Lib.cell_of_heap K2.out 0
 have a1 := Lib.cell_of_heap K2.out 1
 simp at a0 a1
 have f0 := Lib.frozen_of_heap K2.out 0
 have f1 := Lib.frozen_of_heap K2.out 1
 unfold fenc
 go_wp2_with fail
 have k2 := set2 K2.out (.string (I rq.num)) (.string (dn rq))
 have m0 := Lib.cell_of_heap k2 0
 have m1 := Lib.cell_of_heap k2 1
 simp at m0 m1
 refine bodyPost_ret (v := .agg #[.string (I rq.num), .string (dn rq)]) (by simp [results, Tryz.results172, go_sem, m0, m1]) rfl ?_
 exact ⟨by rw [HRQ.out]; rfl, (C2.out.setCell (p := ⟨w.heap.size + 1, 0, none⟩) (by show w.heap.size ≤ w.heap.size + 1; omega) _).setCell (p := ⟨w.heap.size + 1, 1, none⟩) (by show w.heap.size ≤ w.heap.size + 1; omega) _⟩
theorem rfNewI {x y : Int} {a : Nat} (hx : x.natAbs < 10 ^ a) (hy : y.natAbs < 10 ^ a) (hp : 0 < y) (ha : a ≤ 60000) (w : World) : Calls Tryz.prog 127 #[.string (I x), .string (I y)] w fun e w' => e = .returned (.tuple #[fenc (Rat.divInt x y), .int .i64 0]) ∧ Below w.heap.size w w' := by
 have H1 := fun W => rzero_any (I y) (by have := I_size_le hy; omega) W
 rw [vl_I, show (y == 0) = false from by rw [beq_eq_false_iff_ne]; omega] at H1
 have H1 := Lib.hid H1
 have H2 := Lib.hid (fun W => rfCanonI hx hy hp ha W)
 clear hx hy hp ha
 obtain ⟨W0, hW0⟩ : ∃ W0, w.alloc (.cells #[.string ⟨#[]⟩, .string ⟨#[]⟩] 25) = W0 := ⟨_, rfl⟩
 have K1 : Hid (W0.heap[w.heap.size]? = some (.cells #[.string ⟨#[]⟩, .string ⟨#[]⟩] 25)) := by rw [Hid, ← hW0]; exact heap_alloc_new w _
 have C1 : Hid (Below w.heap.size w W0) := by rw [Hid, ← hW0]; exact (Below.refl _ w).alloc (Nat.le_refl _) _
 go_enter Tryz.func127, Tryz.ntmps127
 go_wp2_with fail
 try rw [hW0]
 refine (H1.out _).mono ?_
 rintro e w1 ⟨rfl, rfl⟩
 go_wp2_with fail
 refine (H2.out _).mono ?_
 rintro e w2 ⟨rfl, c2⟩
 have C2 := Lib.hid (C1.out.trans (c2.mono C1.out.size))
 have K2 := Lib.hid ((c2.block _ (Array.getElem?_eq_some_iff.1 K1.out).1).trans K1.out)
 clear c2 C1 K1 H2
 obtain ⟨rq, hrq⟩ : ∃ rq, Rat.divInt x y = rq := ⟨_, rfl⟩
 rw [hrq]
 have HRQ := Lib.hid hrq
 clear hrq
 have a0 := Lib.cell_of_heap K2.out 0
 have a1 := Lib.cell_of_heap K2.out 1
 simp at a0 a1
 have f0 := Lib.frozen_of_heap K2.out 0
 have f1 := Lib.frozen_of_heap K2.out 1
 unfold fenc
 go_wp2_with fail
 have k2 := set2 K2.out (.string (I rq.num)) (.string (dn rq))
 have m0 := Lib.cell_of_heap k2 0
 have m1 := Lib.cell_of_heap k2 1
 simp at m0 m1
 refine bodyPost_ret (v := .tuple #[.agg #[.string (I rq.num), .string (dn rq)], .int .i64 0]) (by simp [results, Tryz.results127, go_sem, m0, m1]) rfl ?_
 exact ⟨by rw [HRQ.out]; rfl, (C2.out.setCell (p := ⟨w.heap.size, 0, none⟩) (by show w.heap.size ≤ w.heap.size; omega) _).setCell (p := ⟨w.heap.size, 1, none⟩) (by show w.heap.size ≤ w.heap.size; omega) _⟩
theorem floor_le (n : Int) (d : Nat) (hd : 0 < d) : n / (d : Int) * (d : Int) ≤ n := Int.ediv_mul_le n (by omega)
theorem ediv_lt {n : Int} {d k : Nat} (hn : n.natAbs < 10 ^ k) (hd : 0 < d) : (n / (d : Int)).natAbs < 10 ^ (k + 1) := by
 have h1 : (n / (d : Int)).natAbs ≤ n.natAbs := by
  rcases Int.lt_or_le n 0 with h | h
  ·have a1 : n / (d : Int) < 0 := Int.ediv_neg_of_neg_of_pos h (by omega)
   have a2 : n ≤ n / (d : Int) := by
    refine (Int.le_ediv_iff_mul_le (by omega)).2 ?_
    have := Int.mul_le_mul_of_nonpos_left (a := n) (b := (d : Int)) (c := 1) (by omega) (by omega)
    omega
   omega
  ·have a1 : 0 ≤ n / (d : Int) := Int.ediv_nonneg h (by omega)
   have a2 : n / (d : Int) ≤ n := Int.ediv_le_self _ h
   omega
 rw [Nat.pow_succ]; omega
theorem rFloorQ {p : Rat} {k : Nat} (h : BdQ p k) (hk : k ≤ 20000) (w : World) : Calls Tryz.prog 165 #[fenc p] w fun e w' => e = .returned (.string (I (p.num / (p.den : Int)))) ∧ Below w.heap.size w w' := by
 have hdp : 0 < p.den := p.den_pos
 have H1 := Lib.hid (fun W => rRawQ h (by omega) W)
 have H2 := fun W => rDiv_any (I p.num) (I (p.den : Int)) (by have := h.num; omega) (by have := I_size_le (den_lt h); omega) (by rw [vl_I]; omega) W
 rw [vl_I, vl_I] at H2
 have H2 := Lib.hid H2
 have H3 := Lib.hid (fun W => rMulI (x := p.num / (p.den : Int)) (y := (p.den : Int)) (ediv_lt h.1 hdp) (den_lt h) (by omega) (by omega) W)
 have hz1 : (I (p.num / (p.den : Int) * (p.den : Int))).size ≤ 1000000 := by
  have := I_size_le (mul_lt_pow (ediv_lt h.1 hdp) (den_lt h)); omega
 have H4 := fun W => rCompare_any (I (p.num / (p.den : Int) * (p.den : Int))) (I p.num) hz1 (by have := h.num; omega) W
 rw [vl_I, vl_I] at H4
 have H4 := Lib.hid H4
 have t1 : decide (0 < cmpI (p.num / (p.den : Int) * (p.den : Int)) p.num) = false := decide_eq_false (by rw [cmpI_gt]; have := floor_le p.num p.den hdp; omega)
 obtain ⟨W0, hW0⟩ : ∃ W0, w.alloc (.cells #[.string (I p.num), .string (dn p)] 25) = W0 := ⟨_, rfl⟩
 have hk0 : W0.heap[w.heap.size]? = some (.cells #[.string (I p.num), .string (dn p)] 25) := by rw [← hW0]; exact heap_alloc_new w _
 have C0 : Hid (Below w.heap.size w W0) := by rw [Hid, ← hW0]; exact (Below.refl _ w).alloc (Nat.le_refl _) _
 have b0 := Lib.cell_of_heap hk0 0
 have b1 := Lib.cell_of_heap hk0 1
 simp at b0 b1
 unfold fenc at H1
 show Calls Tryz.prog 165 #[.agg #[.string (I p.num), .string (dn p)]] w _
 obtain ⟨fl, hfl⟩ : ∃ fl, p.num / (p.den : Int) = fl := ⟨_, rfl⟩
 rw [hfl] at H2 H3 H4 t1 ⊢
 clear h hk hdp hz1 hk0 hfl
 go_enter Tryz.func165, Tryz.ntmps165
 go_wp2_with fail
 try rw [hW0]
 refine (H1.out _).mono ?_
 rintro e w1 ⟨rfl, c1⟩
 have C1 := Lib.hid (C0.out.trans (c1.mono C0.out.size))
 clear c1 C0 H1 b0 b1 hW0
 go_wp2_with fail
 refine (H2.out _).mono ?_
 rintro e w2 ⟨rfl, c2⟩
 have C2 := Lib.hid (C1.out.trans (c2.mono C1.out.size))
 clear c2 C1 H2
 go_wp2_with fail
 refine (H3.out _).mono ?_
 rintro e w3 ⟨rfl, c3⟩
 have C3 := Lib.hid (C2.out.trans (c3.mono C2.out.size))
 clear c3 C2 H3
 go_wp2_with fail
 refine (H4.out _).mono ?_
 rintro e w4 ⟨rfl, rfl⟩
 go_wp2_with fail
 go_ret
 exact ⟨rfl, C3.out⟩
theorem rfCompareQ {p q : Rat} {k : Nat} (h : BdQ p k) (h' : BdQ q k) (hk : k ≤ 20000) (w : World) : Calls Tryz.prog 136 #[fenc p, fenc q] w fun e w' => e = .returned (.int .i64 (cmpI (p.num * (q.den : Int)) (q.num * (p.den : Int)))) ∧ Below w.heap.size w w' := by
 have H1 := Lib.hid (fun W => rRawQ h (by omega) W)
 have H2 := Lib.hid (fun W => rRawQ h' (by omega) W)
 have H3 := Lib.hid (fun W => rMulI (x := p.num) (y := (q.den : Int)) h.1 (den_lt h') (by omega) (by omega) W)
 have H4 := Lib.hid (fun W => rMulI (x := q.num) (y := (p.den : Int)) h'.1 (den_lt h) (by omega) (by omega) W)
 have H5 := fun W => rCompare_any (I (p.num * (q.den : Int))) (I (q.num * (p.den : Int))) (by have := I_size_le (mul_lt_pow h.1 (den_lt h')); omega) (by have := I_size_le (mul_lt_pow h'.1 (den_lt h)); omega) W
 rw [vl_I, vl_I] at H5
 have H5 := Lib.hid H5
 clear h h' hk
 obtain ⟨W0, hW0, hb0, hs0, k0, k1⟩ := box2 w (.cells #[.string (I p.num), .string (dn p)] 25) (.cells #[.string (I q.num), .string (dn q)] 25)
 have a0 := Lib.cell_of_heap k0 0
 have a1 := Lib.cell_of_heap k0 1
 have b0 := Lib.cell_of_heap k1 0
 have b1 := Lib.cell_of_heap k1 1
 simp at a0 a1 b0 b1
 have HB := Lib.hid hb0
 clear hb0 k0 k1 hs0
 unfold fenc at H1 H2
 show Calls Tryz.prog 136 #[.agg #[.string (I p.num), .string (dn p)], .agg #[.string (I q.num), .string (dn q)]] w _
 go_enter Tryz.func136, Tryz.ntmps136
 go_wp2_with fail
 try rw [← hW0]
 refine (H1.out _).mono ?_
 rintro e w1 ⟨rfl, c1⟩
 have e0 := (c1.cell (cell_lt b0)).trans b0
 have e1 := (c1.cell (cell_lt b1)).trans b1
 have C1 := Lib.hid (HB.out.trans (c1.mono HB.out.size))
 clear c1 a0 a1 b0 b1 HB H1 hW0
 go_wp2_with fail
 refine (H2.out _).mono ?_
 rintro e w2 ⟨rfl, c2⟩
 have C2 := Lib.hid (C1.out.trans (c2.mono C1.out.size))
 clear c2 e0 e1 C1 H2
 go_wp2_with fail
 refine (H3.out _).mono ?_
 rintro e w3 ⟨rfl, c3⟩
 have C3 := Lib.hid (C2.out.trans (c3.mono C2.out.size))
 clear c3 C2 H3
 go_wp2_with fail
 refine (H4.out _).mono ?_
 rintro e w4 ⟨rfl, c4⟩
 have C4 := Lib.hid (C3.out.trans (c4.mono C3.out.size))
 clear c4 C3 H4
 go_wp2_with fail
 refine (H5.out _).mono ?_
 rintro e w5 ⟨rfl, rfl⟩
 go_wp2_with fail
 go_ret
 exact ⟨rfl, C4.out⟩
theorem last_byte {z : Int} (h : z ≠ 0) : ∃ m, (I z).size = m + 1 ∧ (byt (I z) m).toNat = 48 + z.natAbs % 10 := by
 have hp : 0 < z.natAbs := by omega
 have hd := digits_pos hp
 have hl : (I z).data.toList = can z := by unfold I; exact bs_data _
 have hs : (I z).size = (can z).length := by rw [Lib.size_eq, hl]
 have hc : ∃ pre, can z = pre ++ [dchar (z.natAbs % 10)] := by
  unfold can
  split
  ·exact ⟨45 :: digits (z.natAbs / 10), by rw [hd]; rfl⟩
  ·exact ⟨_, hd⟩
 obtain ⟨pre, hpre⟩ := hc
 refine ⟨pre.length, by rw [hs, hpre]; simp, ?_⟩
 unfold byt
 rw [hl, hpre, List.getD_eq_getElem?_getD, List.getElem?_append_right (Nat.le_refl _)]
 simp
 exact toNat_dchar (Nat.mod_lt _ (by omega))
theorem even_nat (z : Int) : (z % 2 = 0) ↔ (z.natAbs % 10 % 2 = 0) := by omega
theorem reven_any (z : Int) (hz : (I z).size ≤ 1000000) (w : World) : Calls Tryz.prog 166 #[.string (I z)] w fun e w' => e = .returned (.bool (decide (z % 2 = 0))) ∧ w = w' := by
 have H1 := fun W => rCanonical_any (I z) hz W
 rw [vl_I] at H1
 have H1 := Lib.hid H1
 by_cases h0 : z = 0
 ·subst h0
  have q6 : ((I 0).toList == []) = true := by rw [toList_nil]; rfl
  clear hz
  go_enter Tryz.func166, Tryz.ntmps166
  go_wp2_with fail
  refine (H1.out _).mono ?_
  rintro e w1 ⟨rfl, rfl⟩
  go_wp2_with fail
  go_ret
  exact ⟨rfl, rfl⟩
 ·obtain ⟨m, hm, hb⟩ := last_byte h0
  have q6 : ((I z).toList == []) = false := by rw [toList_nil]; exact decide_eq_false h0
  have he := even_nat z
  obtain ⟨d, hd⟩ : ∃ d, z.natAbs % 10 = d := ⟨_, rfl⟩
  have hd10 : d < 10 := by omega
  rw [hd] at hb he
  have HE := Lib.hid he
  obtain ⟨s, hs⟩ : ∃ s, I z = s := ⟨_, rfl⟩
  rw [hs] at hm hb q6 H1 hz ⊢
  have hlt : m < s.size := by omega
  have hg : (s[m]'hlt).toNat = 48 + d := by rw [byt_get]; exact hb
  clear h0 hd he hb hs
  by_cases h2 : d % 2 = 0
  ·have HR : Hid (decide (z % 2 = 0) = true) := decide_eq_true (HE.out.2 h2)
   have t1 : ((48 + (d : Int) - 48) % 2 == 0) = true := by rw [beq_iff_eq]; omega
   clear h2
   go_enter Tryz.func166, Tryz.ntmps166
   go_wp2_with fail
   refine (H1.out _).mono ?_
   rintro e w1 ⟨rfl, rfl⟩
   go_wp2_with fail
   go_ret
   exact ⟨by rw [HR.out]; rfl, rfl⟩
  ·have HR : Hid (decide (z % 2 = 0) = false) := decide_eq_false (fun e => h2 (HE.out.1 e))
   have t1 : ((48 + (d : Int) - 48) % 2 == 0) = false := by rw [beq_eq_false_iff_ne]; omega
   clear h2
   go_enter Tryz.func166, Tryz.ntmps166
   go_wp2_with fail
   refine (H1.out _).mono ?_
   rintro e w1 ⟨rfl, rfl⟩
   go_wp2_with fail
   go_ret
   exact ⟨by rw [HR.out]; rfl, rfl⟩
theorem rest_eq (p : Rat) : p - ((p.num / (p.den : Int) : Int) : Rat) = Rat.divInt (p.num % (p.den : Int)) (p.den : Int) := by
 have hd : (p.den : Int) ≠ 0 := by have := p.den_pos; omega
 rw [show p - ((p.num / (p.den : Int) : Int) : Rat) = Rat.divInt p.num (p.den : Int) - Rat.divInt (p.num / (p.den : Int)) 1 from by rw [of_eq, ← q_divInt p]]
 rw [Rat.divInt_sub_divInt _ _ hd (by omega)]
 congr 1
 ·have := Int.emod_add_mul_ediv p.num (p.den : Int)
  rw [Int.mul_one]
  generalize p.num / (p.den : Int) = x at *
  rw [Int.mul_comm x]
  omega
 ·omega
theorem rest_parts (p : Rat) : (p - ((p.num / (p.den : Int) : Int) : Rat)).num = p.num % (p.den : Int) ∧ (p - ((p.num / (p.den : Int) : Int) : Rat)).den = p.den := by
 have hd : 0 < (p.den : Int) := by have := p.den_pos; omega
 have hg : Int.gcd (p.num % (p.den : Int)) (p.den : Int) = 1 := by
  obtain ⟨g, hgd⟩ : ∃ g, Int.gcd (p.num % (p.den : Int)) (p.den : Int) = g := ⟨_, rfl⟩
  have h1 : (g : Int) ∣ p.num % (p.den : Int) := by rw [← hgd]; exact Int.gcd_dvd_left ..
  have h2 : (g : Int) ∣ (p.den : Int) := by rw [← hgd]; exact Int.gcd_dvd_right ..
  have h3 : (g : Int) ∣ p.num := by
   rw [← Int.emod_add_mul_ediv p.num (p.den : Int)]
   exact Int.dvd_add h1 (Int.dvd_trans h2 (Int.dvd_mul_right _ _))
  have h4 : g ∣ p.num.natAbs := Int.ofNat_dvd_left.1 h3
  have h5 : g ∣ p.den := Int.natCast_dvd_natCast.1 h2
  have h6 : g ∣ 1 := by
   have := Nat.dvd_gcd h4 h5
   rwa [show Nat.gcd p.num.natAbs p.den = 1 from p.reduced] at this
  rw [hgd]
  exact Nat.dvd_one.1 h6
 rw [rest_eq]
 have e1 := red_num (a := p.num % (p.den : Int)) hd
 have e2 := red_den (a := p.num % (p.den : Int)) hd
 rw [hg, dq_pos (by omega)] at e1 e2
 constructor
 ·rw [← e1]; simp
 ·have : ((Rat.divInt (p.num % (p.den : Int)) (p.den : Int)).den : Int) = (p.den : Int) := by rw [← e2]; simp
  omega
theorem rnd_rest (p : Rat) : rnd p = if (p.den : Int) < 2 * (p.num % (p.den : Int)) ∨ ((p.den : Int) = 2 * (p.num % (p.den : Int)) ∧ p.num / (p.den : Int) % 2 ≠ 0) then p.num / (p.den : Int) + 1 else p.num / (p.den : Int) := rfl
def BX (w : World) (l : List (Nat × Obj)) (W : World) : Prop := Below w.heap.size w W ∧ ∀ x, x ∈ l → W.heap[x.1]? = some x.2
theorem BX.below {w : World} {l : List (Nat × Obj)} {W W' : World} (h : BX w l W) (hb : Below W.heap.size W W') : BX w l W' :=
 ⟨h.1.trans (hb.mono h.1.size), fun x hx => (hb.block _ (Array.getElem?_eq_some_iff.1 (h.2 x hx)).1).trans (h.2 x hx)⟩
theorem BX.push {w : World} {l : List (Nat × Obj)} {W : World} (h : BX w l W) (o : Obj) : BX w ((W.heap.size, o) :: l) (W.alloc o) := by
 have h2 := h.below ((Below.refl _ W).alloc (Nat.le_refl _) o)
 refine ⟨h2.1, fun x hx => ?_⟩
 rcases List.mem_cons.1 hx with rfl | hx
 ·exact heap_alloc_new W o
 ·exact h2.2 x hx
theorem BX.get {w : World} {l : List (Nat × Obj)} {W : World} (h : BX w l W) (k : Nat) {b : Nat} {o : Obj} (hk : l[k]? = some (b, o)) : W.heap[b]? = some o := h.2 _ (List.mem_of_getElem? hk)
theorem BX.lt {w : World} {l : List (Nat × Obj)} {W : World} (h : BX w l W) (k : Nat) {b : Nat} {o : Obj} (hk : l[k]? = some (b, o)) : b < W.heap.size := (Array.getElem?_eq_some_iff.1 (h.get k hk)).1
abbrev fobj (q : Rat) : Obj := .cells #[.string (I q.num), .string (dn q)] 25 (0, 0)
abbrev fz : Obj := .cells #[.string ⟨#[]⟩, .string ⟨#[]⟩] 25 (0, 0)
theorem BX.set2 {w : World} {l : List (Nat × Obj)} {W : World} {B : Nat} {a b : Value} {t : TypeId} {m : Nat × Nat} (h : BX w l W) (hB : w.heap.size ≤ B) (hk : W.heap[B]? = some (.cells #[a, b] t m)) (hn : ∀ x, x ∈ l → x.1 ≠ B) (x y : Value) :
 BX w ((B, .cells #[x, y] t m) :: l) ((W.setCell ⟨B, 0, none⟩ x).setCell ⟨B, 1, none⟩ y) := by
 refine ⟨set2_below hB h.1 _ _, fun z hz => ?_⟩
 rcases List.mem_cons.1 hz with rfl | hz
 ·exact Go.Proofs.YtpgjmdggblnfkaaGreatDoor.set2 hk _ _
 ·exact (set2_far (hn z hz) _ _).trans (h.2 z hz)
theorem BX.calls {w : World} {l : List (Nat × Obj)} {f : Nat} {args : Array Value} {v : Value} (h : ∀ W, Calls Tryz.prog f args W fun e w' => e = .returned v ∧ Below W.heap.size W w') :
 ∀ W, BX w l W → Calls Tryz.prog f args W fun e wn => e = .returned v ∧ BX w l wn ∧ Below W.heap.size W wn := by
 intro W hW
 refine (h W).mono ?_
 rintro e wn ⟨rfl, bn⟩
 exact ⟨rfl, hW.below bn, bn⟩
abbrev RP (w : World) (p : Rat) (W : World) : Prop := BX w [(w.heap.size, fobj p)] W
theorem RP.two {w : World} {p : Rat} {W : World} (h : RP w p W) : W.cell? ⟨w.heap.size, 0, none⟩ = some (.string (I p.num)) ∧ W.cell? ⟨w.heap.size, 1, none⟩ = some (.string (dn p)) :=
 ⟨Lib.cell_of_heap (h.get 0 rfl) 0, Lib.cell_of_heap (h.get 0 rfl) 1⟩
theorem RP.calls {w : World} {p : Rat} {f : Nat} {args : Array Value} {v : Value} (h : ∀ W, Calls Tryz.prog f args W fun e w' => e = .returned v ∧ Below W.heap.size W w') :
 ∀ W, RP w p W → Calls Tryz.prog f args W fun e wn => e = .returned v ∧ RP w p wn ∧ Below W.heap.size W wn ∧ wn.cell? ⟨w.heap.size, 0, none⟩ = some (.string (I p.num)) ∧ wn.cell? ⟨w.heap.size, 1, none⟩ = some (.string (dn p)) := by
 intro W hW
 refine (h W).mono ?_
 rintro e wn ⟨rfl, bn⟩
 have := hW.below bn
 exact ⟨rfl, this, bn, RP.two this⟩
theorem half_num : (Rat.divInt 1 2).num = 1 ∧ (Rat.divInt 1 2).den = 2 := by constructor <;> kernel_rfl
theorem zero_nd : ((0 : Int) : Rat).num = 0 ∧ ((0 : Int) : Rat).den = 1 := ⟨rfl, rfl⟩
theorem rRoundTo_any {p : Rat} {k : Nat} (h : BdQ p k) (hk1 : 1 ≤ k) (hk : k ≤ 9000) (w : World) : Calls Tryz.prog 123 #[fenc p, .int .i64 1] w fun e w' => e = .returned (.string (I (rnd p))) ∧ Below w.heap.size w w' := by
 have hdp : 0 < p.den := p.den_pos
 obtain ⟨r1, r2⟩ := rest_parts p
 have hfb := ediv_lt h.1 hdp
 have H1 := fun W => rFloorQ h (by omega) W
 have H2 := fun W => rfOf_any (I (p.num / (p.den : Int))) (by have := I_size_le hfb; omega) W
 rw [vl_I] at H2
 have H3 := fun W => rfSubQ (h.mono (show k ≤ k + 1 by omega)) (BdQ.int hfb (by omega)) (by omega) W
 have H4 := Lib.hid (fun W => rfOf_any ⟨#[]⟩ (by show 0 ≤ _; omega) W)
 rw [show vl (⟨#[]⟩ : ByteArray) = 0 from by rw [zero_eq, vl_I]] at H4
 have hrem : p.num % (p.den : Int) < (p.den : Int) ∧ 0 ≤ p.num % (p.den : Int) := ⟨Int.emod_lt_of_pos _ (by omega), Int.emod_nonneg _ (by omega)⟩
 have hrb : BdQ (p - ((p.num / (p.den : Int) : Int) : Rat)) k := by
  refine ⟨?_, ?_⟩
  ·rw [r1]; have := h.2; omega
  ·rw [r2]; exact h.2
 have hzb : BdQ ((0 : Int) : Rat) k := BdQ.zero hk1
 have hhb : BdQ (Rat.divInt 1 2) k := by
  have : 10 ^ 1 ≤ 10 ^ k := Nat.pow_le_pow_right (by omega) hk1
  refine ⟨?_, ?_⟩
  ·rw [half_num.1]; show 1 < _; omega
  ·rw [half_num.2]; omega
 have H5 := fun W => rfCompareQ hrb hzb (by omega) W
 have H6 := fun W => rAddI (x := p.num / (p.den : Int)) (y := 1) (a := k + 1) hfb (by show 1 < _; exact Nat.lt_of_lt_of_le (show 1 < 10 ^ 1 by omega) (Nat.pow_le_pow_right (by omega) (by omega))) (by omega) W
 have H7 := Lib.hid (fun W => rfNewI (x := 1) (y := 2) (a := 1) (by decide) (by decide) (by omega) (by omega) W)
 have H8 := fun W => rfCompareQ hrb hhb (by omega) W
 have H9 := fun W => rfCompareQ h hzb (by omega) W
 have H10 := Lib.hid (fun W => reven_any (p.num / (p.den : Int)) (by have := I_size_le hfb; omega) W)
 have HR := Lib.hid (rnd_rest p)
 rw [r1, r2, zero_nd.1, zero_nd.2] at H5
 rw [r1, r2, half_num.1, half_num.2] at H8
 obtain ⟨fl, hfl⟩ : ∃ fl, p.num / (p.den : Int) = fl := ⟨_, rfl⟩
 obtain ⟨re, hre⟩ : ∃ re, p.num % (p.den : Int) = re := ⟨_, rfl⟩
 obtain ⟨de, hde⟩ : ∃ de : Int, (p.den : Int) = de := ⟨_, rfl⟩
 rw [hfl] at H1 H2 H3 H5 H6 H8 H10 HR
 rw [hre] at H5 H8 HR hrem
 rw [hde] at H5 H8 HR hrem
 rw [show cmpI (re * ((1 : Nat) : Int)) (0 * de) = cmpI re 0 from by rw [Int.zero_mul]; simp] at H5
 rw [show cmpI (re * ((2 : Nat) : Int)) (1 * de) = cmpI (re * 2) de from by rw [Int.one_mul]; rfl] at H8
 obtain ⟨rr, hrr⟩ : ∃ rr : Rat, p - ((fl : Int) : Rat) = rr := ⟨_, rfl⟩
 obtain ⟨rf, hrf⟩ : ∃ rf : Rat, ((fl : Int) : Rat) = rf := ⟨_, rfl⟩
 obtain ⟨rz, hrz⟩ : ∃ rz : Rat, ((0 : Int) : Rat) = rz := ⟨_, rfl⟩
 obtain ⟨rh, hrh⟩ : ∃ rh : Rat, Rat.divInt 1 2 = rh := ⟨_, rfl⟩
 rw [hrr] at H3 H5 H8
 rw [hrf] at H2 H3
 rw [hrz] at H4 H5 H9
 rw [hrh] at H7 H8
 unfold fenc at H1 H2 H3 H4 H5 H7 H8 H9 ⊢
 have HC1 := Lib.hid (RP.calls (w := w) (p := p) H1)
 have HC2 := Lib.hid (RP.calls (w := w) (p := p) H2)
 have HC3 := Lib.hid (RP.calls (w := w) (p := p) H3)
 replace H5 := Lib.hid H5
 replace H6 := Lib.hid H6
 replace H8 := Lib.hid H8
 replace H9 := Lib.hid H9
 have HRE := Lib.hid hrem
 have hg : RP w p (w.alloc (fobj p)) := ⟨(Below.refl _ w).alloc (Nat.le_refl _) _, fun x hx => by
  rcases List.mem_cons.1 hx with rfl | hx
  ·exact heap_alloc_new w _
  ·cases hx⟩
 obtain ⟨W0, hW0⟩ : ∃ W0, w.alloc (fobj p) = W0 := ⟨_, rfl⟩
 rw [hW0] at hg
 obtain ⟨a0, a1⟩ := RP.two hg
 generalize cmpI (p.num * ((rz.den : Nat) : Int)) (rz.num * ((p.den : Nat) : Int)) = cneg at H9
 clear h hk1 hk hdp r1 r2 hfb H1 H2 H3 hrb hzb hhb hfl hre hde hrr hrf hrz hrh hrem
 go_enter Tryz.func123, Tryz.ntmps123
 go_wp2_with fail
 refine (HC1.out _ hg).mono ?_
 clear hg a0 a1
 rintro e w1 ⟨rfl, hg, _, a0, a1⟩
 go_wp2_with fail
 go_cut [6] (fun v6 wx => ∃ (B : Nat) (wr : World), v6 = .pointer (some ⟨B, 0, none⟩) ∧ w.heap.size < B ∧ BX w [(B, fobj rr), (w.heap.size, fobj p)] wr ∧ wr = wx)
 case first =>
  have ne1 : w1.heap.size ≠ w.heap.size := by have := hg.lt 0 rfl; omega
  have lt1 : w.heap.size < w1.heap.size := hg.lt 0 rfl
  replace hg : RP w p w1.drew := hg.below (Below.refl _ _).drew
  go_region_held3 (fun W => W.cell? ⟨w.heap.size, 0, none⟩ = some (.string (I p.num)) ∧ W.cell? ⟨w.heap.size, 1, none⟩ = some (.string (dn p)))
   (((try dsimp only); refine ⟨?_, ?_⟩ <;> first | assumption | (simp [*, World.cell?_alloc_some, World.cell?_setCell_far]; done) | (go_simp; done)))
   (first
     | (go_at_call_of 126 [Value.string (I fl)]; refine (HC2.out _ ?_).mono ?_; (first | exact hg | exact hg.below ((Below.refl _ _).alloc (Nat.le_refl _) _)); clear hg a0 a1; rintro e wn ⟨rfl, hg, bn, a0, a1⟩; have ne1 : wn.heap.size ≠ w.heap.size := (by have := hg.lt 0 rfl; omega); have lt1 : w.heap.size < wn.heap.size := hg.lt 0 rfl; (first | (have nb := (bn.block _ (Array.getElem?_eq_some_iff.1 nb).1).trans nb; have n0 := Lib.cell_of_heap nb 0; have n1 := Lib.cell_of_heap nb 1; have n2 := Lib.frozen_of_heap nb 0; have n3 := Lib.frozen_of_heap nb 1; simp at n0 n1 n2 n3) | (have nb := (bn.block _ (by simp)).trans (heap_alloc_new _ _); have n0 := Lib.cell_of_heap nb 0; have n1 := Lib.cell_of_heap nb 1; have n2 := Lib.frozen_of_heap nb 0; have n3 := Lib.frozen_of_heap nb 1; simp at n0 n1 n2 n3) | skip); clear bn)
     | (go_at_call_of 124 [Value.agg #[Value.string (I p.num), Value.string (dn p)], Value.agg #[Value.string (I rf.num), Value.string (dn rf)]]; refine (HC3.out _ ?_).mono ?_; (first | exact hg | exact hg.below ((Below.refl _ _).alloc (Nat.le_refl _) _)); clear hg a0 a1; rintro e wn ⟨rfl, hg, bn, a0, a1⟩; have ne1 : wn.heap.size ≠ w.heap.size := (by have := hg.lt 0 rfl; omega); have lt1 : w.heap.size < wn.heap.size := hg.lt 0 rfl; (first | (have nb := (bn.block _ (Array.getElem?_eq_some_iff.1 nb).1).trans nb; have n0 := Lib.cell_of_heap nb 0; have n1 := Lib.cell_of_heap nb 1; have n2 := Lib.frozen_of_heap nb 0; have n3 := Lib.frozen_of_heap nb 1; simp at n0 n1 n2 n3) | (have nb := (bn.block _ (by simp)).trans (heap_alloc_new _ _); have n0 := Lib.cell_of_heap nb 0; have n1 := Lib.cell_of_heap nb 1; have n2 := Lib.frozen_of_heap nb 0; have n3 := Lib.frozen_of_heap nb 1; simp at n0 n1 n2 n3) | skip); clear bn))
  all_goals (first | go_wp2_with fail | skip)
  all_goals go_meet
  all_goals first
   | exact ⟨_, _, rfl, lt1, hg.push _, rfl⟩
   | (refine ⟨_, _, rfl, ?_, hg.set2 ?_ nb ?_ _ _, rfl⟩ <;> first | assumption | omega | (intro x hx; simp at hx; rcases hx with rfl; simp; omega) | (simp; omega))
 case rest =>
  obtain ⟨B, wr, rfl, hBB, hg, rfl⟩ := hcut
  clear a0 a1 HC1 HC2 HC3 hW0
  go_wp2_with fail
  refine (H4.out _).mono ?_
  rintro e w3 ⟨rfl, b3⟩
  replace hg := hg.below b3
  clear b3 H4
  have HG := Lib.hid hg
  clear hg
  go_upto_region 4 with fail
  have hg := HG.out.push (fobj rz)
  generalize w3.heap.size = B3 at hg ⊢
  generalize w3.alloc (fobj rz) = W4 at hg ⊢
  have z0 := Lib.cell_of_heap (hg.get 0 rfl) 0
  have z1 := Lib.cell_of_heap (hg.get 0 rfl) 1
  have r0 := Lib.cell_of_heap (hg.get 1 rfl) 0
  have r1 := Lib.cell_of_heap (hg.get 1 rfl) 1
  simp at z0 z1 r0 r1
  replace HG := Lib.hid hg
  clear hg
  go_wp2_with fail
  refine (H5.out _).mono ?_
  rintro e w5 ⟨rfl, b5⟩
  replace HG := Lib.hid (HG.out.below b5)
  clear b5 z0 z1 r0 r1 H5
  by_cases h0 : re = 0
  ·have t0 : (cmpI re 0 == 0) = true := beq_iff_eq.2 (cmpI_eq.2 h0)
   have HZ := Lib.hid h0
   clear h0
   go_wp2_with fail
   go_ret
   refine ⟨?_, HG.out.1⟩
   rw [HR.out, if_neg (by have := HZ.out; have := HRE.out; omega)]
   rfl
  have t0 : (cmpI re 0 == 0) = false := beq_eq_false_iff_ne.2 (fun e => h0 (cmpI_eq.1 e))
  clear h0
  go_wp2_with fail
  refine (H6.out _).mono ?_
  rintro e w6 ⟨rfl, b6⟩
  replace HG := Lib.hid (HG.out.below b6)
  clear b6 H6 t0
  go_wp2_with fail
  refine (H7.out _).mono ?_
  rintro e w7 ⟨rfl, b7⟩
  replace HG := Lib.hid (HG.out.below b7)
  clear b7 H7
  go_upto_region 8 with fail
  have hg := HG.out.push (fobj rh)
  generalize w7.heap.size = B7 at hg ⊢
  generalize w7.alloc (fobj rh) = W8 at hg ⊢
  have h0 := Lib.cell_of_heap (hg.get 0 rfl) 0
  have h1 := Lib.cell_of_heap (hg.get 0 rfl) 1
  have r0 := Lib.cell_of_heap (hg.get 2 rfl) 0
  have r1 := Lib.cell_of_heap (hg.get 2 rfl) 1
  simp at h0 h1 r0 r1
  replace HG := Lib.hid hg
  clear hg
  go_wp2_with fail
  refine (H8.out _).mono ?_
  rintro e w8 ⟨rfl, b8⟩
  replace HG := Lib.hid (HG.out.below b8)
  clear b8 H8 h0 h1 r0 r1
  have z0 := Lib.cell_of_heap (HG.out.get 1 rfl) 0
  have z1 := Lib.cell_of_heap (HG.out.get 1 rfl) 1
  have a0 := Lib.cell_of_heap (HG.out.get 3 rfl) 0
  have a1 := Lib.cell_of_heap (HG.out.get 3 rfl) 1
  simp at z0 z1 a0 a1
  go_wp2_with fail
  refine (H9.out _).mono ?_
  rintro e w9 ⟨rfl, b9⟩
  replace HG := Lib.hid (HG.out.below b9)
  clear b9 H9 z0 z1 a0 a1
  obtain ⟨c, hc⟩ : ∃ c, cmpI (re * 2) de = c := ⟨_, rfl⟩
  rw [hc]
  have HC := Lib.hid hc
  clear hc
  rcases Int.lt_trichotomy c 0 with hl | hl | hl
  ·have t1 : decide (0 < c) = false := decide_eq_false (by omega)
   have t2 : (c == 0) = false := beq_eq_false_iff_ne.2 (by omega)
   have HL : Hid (re * 2 < de) := cmpI_lt.1 (by rw [HC.out]; exact hl)
   clear hl
   go_wp2_with fail
   go_ret
   refine ⟨?_, HG.out.1⟩
   rw [HR.out, if_neg (by have := HL.out; omega)]
   rfl
  ·have t1 : decide (0 < c) = false := decide_eq_false (by omega)
   have t2 : (c == 0) = true := beq_iff_eq.2 hl
   have HL : Hid (re * 2 = de) := cmpI_eq.1 (by rw [HC.out]; exact hl)
   clear hl
   go_wp2_with fail
   refine (H10.out _).mono ?_
   rintro e w10 ⟨rfl, rfl⟩
   by_cases he : fl % 2 = 0
   ·rw [decide_eq_true he]
    have HE := Lib.hid he
    clear he
    go_wp2_with fail
    go_ret
    refine ⟨?_, HG.out.1⟩
    rw [HR.out, if_neg (by have := HL.out; have := HE.out; omega)]
    rfl
   ·rw [decide_eq_false he]
    have HE := Lib.hid he
    clear he
    go_wp2_with fail
    go_ret
    refine ⟨?_, HG.out.1⟩
    rw [HR.out, if_pos (.inr ⟨by have := HL.out; omega, HE.out⟩)]
    rfl
  ·have t1 : decide (0 < c) = true := decide_eq_true hl
   have HL : Hid (de < re * 2) := cmpI_gt.1 (by rw [HC.out]; exact hl)
   clear hl
   go_wp2_with fail
   go_ret
   refine ⟨?_, HG.out.1⟩
   rw [HR.out, if_pos (.inl (by have := HL.out; omega))]
   rfl
abbrev TP (w : World) (p : Rat) (W : World) : Prop := BX w [(w.heap.size, fobj p), (w.heap.size + 1, fz)] W
theorem TP.calls {w : World} {p : Rat} {f : Nat} {args : Array Value} {v : Value} (h : ∀ W, Calls Tryz.prog f args W fun e w' => e = .returned v ∧ Below W.heap.size W w') :
 ∀ W, TP w p W → Calls Tryz.prog f args W fun e wn => e = .returned v ∧ TP w p wn ∧ (wn.cell? ⟨w.heap.size, 0, none⟩ = some (.string (I p.num)) ∧ wn.cell? ⟨w.heap.size, 1, none⟩ = some (.string (dn p))) ∧ wn.cell? ⟨w.heap.size + 1, 0, none⟩ = some (.string ⟨#[]⟩) ∧ wn.cell? ⟨w.heap.size + 1, 1, none⟩ = some (.string ⟨#[]⟩) ∧ wn.frozen? ⟨w.heap.size + 1, 0, none⟩ = false ∧ wn.frozen? ⟨w.heap.size + 1, 1, none⟩ = false := by
 intro W hW
 refine (h W).mono ?_
 rintro e wn ⟨rfl, bn⟩
 have hn := hW.below bn
 exact ⟨rfl, hn, ⟨Lib.cell_of_heap (hn.get 0 rfl) 0, Lib.cell_of_heap (hn.get 0 rfl) 1⟩, Lib.cell_of_heap (hn.get 1 rfl) 0, Lib.cell_of_heap (hn.get 1 rfl) 1, Lib.frozen_of_heap (hn.get 1 rfl) 0, Lib.frozen_of_heap (hn.get 1 rfl) 1⟩
theorem times39_any {p : Rat} {k : Nat} (h : BdQ p k) (a : ByteArray) (ha : a.size + 1 ≤ k) (hk : k ≤ 20000) (w : World) : Calls Tryz.prog 125 #[fenc p, .string a] w fun e w' => e = .returned (fenc (p * (vl a : Rat))) ∧ Below w.heap.size w w' := by
 have ba : BdQ (vl a : Rat) k := BdQ.int (Nat.lt_of_lt_of_le (vl_lt _) (pow_mono (by omega))) (by omega)
 have C1 := fun W => rfOf_any a (by omega) W
 have C2 := fun W => rfMulQ h ba hk W
 have HC1 := Lib.hid (TP.calls (w := w) (p := p) C1)
 have HC2 := Lib.hid (TP.calls (w := w) (p := p) C2)
 obtain ⟨rn, hrn⟩ : ∃ rn : Rat, ((vl a : Int) : Rat) = rn := ⟨_, rfl⟩
 obtain ⟨rq, hrq⟩ : ∃ rq, p * rn = rq := ⟨_, rfl⟩
 rw [hrn] at HC1 HC2 ⊢
 rw [hrq] at HC2 ⊢
 have ha' : a.size ≤ 20000 := by omega
 clear h hk C1 C2 hrn hrq ha ba
 obtain ⟨W0, hW0, hb0, hs0, k0, k1⟩ := box2 w (.cells #[.string (I p.num), .string (dn p)] 25) (.cells #[.string ⟨#[]⟩, .string ⟨#[]⟩] 25)
 have hg0 : TP w p W0 := ⟨hb0, fun x hx => by
  rcases List.mem_cons.1 hx with rfl | hx
  ·exact k0
  ·rcases List.mem_cons.1 hx with rfl | hx
   ·exact k1
   ·cases hx⟩
 have b0 := Lib.cell_of_heap k0 0
 have b1 := Lib.cell_of_heap k0 1
 simp at b0 b1
 clear hb0 k0 k1 hs0
 unfold fenc at HC1 HC2 ⊢
 go_enter Tryz.func125, Tryz.ntmps125
 go_wp2_with fail
 rw [← hW0]
 clear hW0
 have hg : TP w p W0.drew := hg0.below (Below.refl _ _).drew
 clear hg0
 go_region_held3 (fun W => W.cell? ⟨w.heap.size, 0, none⟩ = some (.string (I p.num)) ∧ W.cell? ⟨w.heap.size, 1, none⟩ = some (.string (dn p)))
  (((try dsimp only); refine ⟨?_, ?_⟩ <;> first | assumption | (go_simp; done)))
  (first
    | (go_at_call 126; refine (HC1.out _ hg).mono ?_; clear hg b0 b1; rintro e wn ⟨rfl, hg, ⟨b0, b1⟩, m0, m1, f0, f1⟩)
    | (go_at_call 129; refine (HC2.out _ hg).mono ?_; clear hg b0 b1; rintro e wn ⟨rfl, hg, ⟨b0, b1⟩, m0, m1, f0, f1⟩))
 go_wp2_with fail
 have k2 := Go.Proofs.YtpgjmdggblnfkaaGreatDoor.set2 (hg.get 1 rfl) (.string (I rq.num)) (.string (dn rq))
 have j0 := Lib.cell_of_heap k2 0
 have j1 := Lib.cell_of_heap k2 1
 simp at j0 j1
 refine bodyPost_ret (v := .agg #[.string (I rq.num), .string (dn rq)]) (by simp [results, Tryz.results125, go_sem, j0, j1]) rfl ?_
 exact ⟨rfl, set2_below (by omega) hg.1 _ _⟩
theorem round39_any {p : Rat} {k : Nat} (h : BdQ p k) (hk1 : 1 ≤ k) (hk : k ≤ 9000) (w : World) : Calls Tryz.prog 68 #[fenc p] w fun e w' => e = .returned (.string (I (rnd p))) ∧ Below w.heap.size w w' := by
 obtain ⟨W0, hW0⟩ : ∃ W0, w.alloc (fobj p) = W0 := ⟨_, rfl⟩
 have HB : Hid (Below w.heap.size w W0) := by rw [Hid, ← hW0]; exact (Below.refl _ w).alloc (Nat.le_refl _) _
 have k0 : W0.heap[w.heap.size]? = some (fobj p) := by rw [← hW0]; exact heap_alloc_new w _
 have b0 := Lib.cell_of_heap k0 0
 have b1 := Lib.cell_of_heap k0 1
 simp at b0 b1
 have H := fun W => rRoundTo_any h hk1 hk W
 unfold fenc at H ⊢
 replace H := Lib.hid H
 clear h hk1 hk k0
 go_enter Tryz.func68, Tryz.ntmps68
 go_wp2_with fail
 try rw [hW0]
 refine (H.out _).mono ?_
 rintro e w1 ⟨rfl, b1'⟩
 replace HB := Lib.hid (HB.out.trans (b1'.mono HB.out.size))
 clear b1' b0 b1
 go_wp2_with fail
 go_ret
 exact ⟨rfl, HB.out⟩
theorem rday39_any (d : Int) (w : World) : Calls Tryz.prog 72 #[.int .i64 d] w fun e w' => e = .returned (.bool (decide (okDay d))) ∧ w = w' := by
 by_cases h : okDay d
 ·rw [decide_eq_true h]
  unfold okDay at h
  have c1 : decide (d ≥ -25567) = true := decide_eq_true (by omega)
  have c2 : decide (d ≤ 84005) = true := decide_eq_true (by omega)
  go_enter Tryz.func72, Tryz.ntmps72
  go_wp2_with fail
  all_goals first | (exfalso; omega) | (go_ret; exact ⟨rfl, rfl⟩)
 ·rw [decide_eq_false h]
  unfold okDay at h
  by_cases h1 : -25567 ≤ d
  ·have c1 : decide (d ≥ -25567) = true := decide_eq_true (by omega)
   have c2 : decide (d ≤ 84005) = false := decide_eq_false (by omega)
   go_enter Tryz.func72, Tryz.ntmps72
   go_wp2_with fail
   all_goals first | (exfalso; omega) | (go_ret; exact ⟨rfl, rfl⟩)
  ·have c1 : decide (d ≥ -25567) = false := decide_eq_false (by omega)
   go_enter Tryz.func72, Tryz.ntmps72
   go_wp2_with fail
   all_goals first | (exfalso; omega) | (go_ret; exact ⟨rfl, rfl⟩)
theorem exact39_zero (i : Inst) (l : Lot) (d : Int) (h : i.kind ≠ 2 ∨ d < l.opn) (w : World) :
 Calls Tryz.prog 69 #[i.enc, l.enc, .int .i64 d] w fun e w' => e = .returned (fenc (exactQ i l d)) ∧ Below w.heap.size w w' := by
 have HQ : Hid (exactQ i l d = 0) := by unfold exactQ; rw [Hid, if_pos h]
 rw [HQ.out]
 have hG := EG.start w i l
 obtain ⟨W0, hW0⟩ : ∃ W0, ((w.alloc (.cells i.cells 27)).alloc (.cells l.cells 39)).alloc (.cells #[.string ⟨#[]⟩, .string ⟨#[]⟩] 25) = W0 := ⟨_, rfl⟩
 rw [hW0] at hG
 have c1 := Lib.cell_of_heap hG.ib 1
 have o3 := Lib.cell_of_heap hG.lb 3
 have r0 := Lib.cell_of_heap hG.rb 0
 have r1 := Lib.cell_of_heap hG.rb 1
 have f0 := Lib.frozen_of_heap hG.rb 0
 have f1 := Lib.frozen_of_heap hG.rb 1
 simp at c1 o3 r0 r1 f0 f1
 have HG := Lib.hid hG
 clear hG
 unfold Inst.enc Inst.cells Lot.enc Lot.cells at *
 by_cases hk : i.kind = 2
 ·have t1 : (i.kind != 2) = false := by simp [hk]
  have t2 : decide (d < l.opn) = true := decide_eq_true (h.resolve_left (fun x => x hk))
  clear h hk
  go_enter Tryz.func69, Tryz.ntmps69
  go_wp2_with fail
  have hd := HG.out.done 0
  rw [show I (0 : Rat).num = ⟨#[]⟩ from rfl, show dn 0 = ⟨#[]⟩ from rfl] at hd
  generalize (W0.setCell ⟨w.heap.size + 1 + 1, 0, none⟩ (.string ⟨#[]⟩)).setCell ⟨w.heap.size + 1 + 1, 1, none⟩ (.string ⟨#[]⟩) = W9 at hd ⊢
  have m0 := Lib.cell_of_heap hd.1 0
  have m1 := Lib.cell_of_heap hd.1 1
  simp at m0 m1
  exact bodyPost_ret (v := .agg #[.string ⟨#[]⟩, .string ⟨#[]⟩]) (by simp [results, Tryz.results69, go_sem, m0, m1]) rfl ⟨rfl, hd.2⟩
 ·have t1 : (i.kind != 2) = true := by simp [hk]
  clear h hk
  go_enter Tryz.func69, Tryz.ntmps69
  go_wp2_with fail
  have hd := HG.out.done 0
  rw [show I (0 : Rat).num = ⟨#[]⟩ from rfl, show dn 0 = ⟨#[]⟩ from rfl] at hd
  generalize (W0.setCell ⟨w.heap.size + 1 + 1, 0, none⟩ (.string ⟨#[]⟩)).setCell ⟨w.heap.size + 1 + 1, 1, none⟩ (.string ⟨#[]⟩) = W9 at hd ⊢
  have m0 := Lib.cell_of_heap hd.1 0
  have m1 := Lib.cell_of_heap hd.1 1
  simp at m0 m1
  exact bodyPost_ret (v := .agg #[.string ⟨#[]⟩, .string ⟨#[]⟩]) (by simp [results, Tryz.results69, go_sem, m0, m1]) rfl ⟨rfl, hd.2⟩
theorem exact39_some (i : Inst) (l : Lot) (d : Int) (hk : i.kind = 2) (ho : l.opn ≤ d) (s1 : i.fn.size ≤ 1000) (s2 : i.fd.size ≤ 1000) (s3 : l.qty.size ≤ 1000) (s4 : l.cost.size ≤ 1000)
 (hcq : CanQ i.fn i.fd) (e1 : okDay d) (e2 : okDay l.opn) (e3 : okDay i.matures) (w : World) (ht : Tabs w) :
 Calls Tryz.prog 69 #[i.enc, l.enc, .int .i64 d] w fun e w' => e = .returned (fenc (exactQ i l d)) ∧ Below w.heap.size w w' := by
 have HQ : Hid (exactQ i l d = if i.matures ≤ d then allQ i l else allQ i l * (((d - l.opn : Int) : Rat) / ((i.matures - l.opn : Int) : Rat))) := by unfold exactQ; rw [Hid, if_neg (by omega)]
 have HT := Lib.hid ht
 obtain ⟨K, hK⟩ : ∃ K, K = 1002 := ⟨_, rfl⟩
 have bf : BdQ (fv i.fn i.fd) K := fv_bd _ _ (by omega) (by omega)
 have bq : BdQ (vl l.qty : Rat) K := BdQ.int (Nat.lt_of_lt_of_le (vl_lt _) (pow_mono (by omega))) (by omega)
 have bc : BdQ (vl l.cost : Rat) K := BdQ.int (Nat.lt_of_lt_of_le (vl_lt _) (pow_mono (by omega))) (by omega)
 have bm := bf.mul bq
 have ba : BdQ (allQ i l) (K + K + K + 1) := bm.sub bc
 have HA : Hid (allQ i l = fv i.fn i.fd * (vl l.qty : Rat) - (vl l.cost : Rat)) := rfl
 have C2 := fun W (_ : Tabs W) => times39_any bf l.qty (by omega) (by omega) W
 rw [show fenc (fv i.fn i.fd) = .agg #[.string i.fn, .string i.fd] from by unfold fenc; rw [← hcq.1, ← hcq.2]] at C2
 have C3 := fun W (_ : Tabs W) => rfOf_any l.cost (by omega) W
 have C4 := fun W (_ : Tabs W) => rfSubQ (k := K + K) bm (bc.mono (by omega)) (by omega) W
 rw [← HA.out] at C4
 generalize (vl l.qty : Rat) = rq at C2 C4 bm bq
 generalize (vl l.cost : Rat) = rc at C3 C4 bc
 generalize fv i.fn i.fd * rq = rm at C2 C4 bm
 generalize allQ i l = ra at C4 ba HQ
 have hG := EG.start w i l
 obtain ⟨W0, hW0⟩ : ∃ W0, ((w.alloc (.cells i.cells 27)).alloc (.cells l.cells 39)).alloc (.cells #[.string ⟨#[]⟩, .string ⟨#[]⟩] 25) = W0 := ⟨_, rfl⟩
 rw [hW0] at hG
 have HC2 := Lib.hid (EG.calls (i := i) (l := l) ht C2)
 have HC3 := Lib.hid (EG.calls (i := i) (l := l) ht C3)
 have HC4 := Lib.hid (EG.calls (i := i) (l := l) ht C4)
 have HG := Lib.hid hG
 have c1 := Lib.cell_of_heap hG.ib 1
 have c5 := Lib.cell_of_heap hG.ib 5
 have c6 := Lib.cell_of_heap hG.ib 6
 have c7 := Lib.cell_of_heap hG.ib 7
 have o3 := Lib.cell_of_heap hG.lb 3
 have o4 := Lib.cell_of_heap hG.lb 4
 have o5 := Lib.cell_of_heap hG.lb 5
 simp at c1 c5 c6 c7 o3 o4 o5
 have t1 : (i.kind != 2) = false := by simp [hk]
 have t2 : decide (d < l.opn) = false := decide_eq_false (by omega)
 have HKK := Lib.hid hK
 have HBM := Lib.hid (And.intro bm ba)
 clear hG C2 C3 C4 hk ht bf bq bc bm ba HA hK hcq
 unfold Inst.enc Inst.cells Lot.enc Lot.cells at *
 unfold fenc at HC2 HC3 HC4
 go_enter Tryz.func69, Tryz.ntmps69
 go_wp2_with fail
 go_cut [7] (fun v7 wx => ∃ (B : Nat) (wr : World), v7 = .pointer (some ⟨B, 0, none⟩) ∧ w.heap.size + 1 + 1 < B ∧ FBox wr B ra ∧ EG w i l wr ∧ wr = wx)
 case first =>
  have hg : EG w i l W0.drew := HG.out.below (Below.refl _ _).drew
  have ne1 := HG.out.ne1
  have ne2 := HG.out.ne2
  have lt1 := HG.out.lt
  clear c1 c5 o3 HG
  go_region_held3 (fun W => W.cell? ⟨w.heap.size, 6, none⟩ = some (.string i.fn) ∧ W.cell? ⟨w.heap.size, 7, none⟩ = some (.string i.fd) ∧ W.cell? ⟨w.heap.size + 1, 4, none⟩ = some (.string l.qty) ∧ W.cell? ⟨w.heap.size + 1, 5, none⟩ = some (.string l.cost))
   (((try dsimp only); refine ⟨?_, ?_, ?_, ?_⟩ <;> first | assumption | (simp [*, World.cell?_alloc_some, World.cell?_setCell_far]; done) | (go_simp; done)))
   (first
     | (go_at_call_of 126 [Value.string l.cost]; refine (HC3.out _ ?_).mono ?_; (first | exact hg | exact hg.below ((Below.refl _ _).alloc (Nat.le_refl _) _)); clear hg c6 c7 o4 o5; rintro e wn ⟨rfl, hg, bn, c6, c7, o4, o5⟩; have ne1 := hg.ne1; have ne2 := hg.ne2; have lt1 := hg.lt; (first | (have nb := (bn.block _ (Array.getElem?_eq_some_iff.1 nb).1).trans nb; have n0 := Lib.cell_of_heap nb 0; have n1 := Lib.cell_of_heap nb 1; have n2 := Lib.frozen_of_heap nb 0; have n3 := Lib.frozen_of_heap nb 1; simp at n0 n1 n2 n3) | (have nb := (bn.block _ (by simp)).trans (heap_alloc_new _ _); have n0 := Lib.cell_of_heap nb 0; have n1 := Lib.cell_of_heap nb 1; have n2 := Lib.frozen_of_heap nb 0; have n3 := Lib.frozen_of_heap nb 1; simp at n0 n1 n2 n3) | skip); clear bn)
     | (go_at_call_of 125 [Value.agg #[Value.string i.fn, Value.string i.fd], Value.string l.qty]; refine (HC2.out _ ?_).mono ?_; (first | exact hg | exact hg.below ((Below.refl _ _).alloc (Nat.le_refl _) _)); clear hg c6 c7 o4 o5; rintro e wn ⟨rfl, hg, bn, c6, c7, o4, o5⟩; have ne1 := hg.ne1; have ne2 := hg.ne2; have lt1 := hg.lt; (first | (have nb := (bn.block _ (Array.getElem?_eq_some_iff.1 nb).1).trans nb; have n0 := Lib.cell_of_heap nb 0; have n1 := Lib.cell_of_heap nb 1; have n2 := Lib.frozen_of_heap nb 0; have n3 := Lib.frozen_of_heap nb 1; simp at n0 n1 n2 n3) | (have nb := (bn.block _ (by simp)).trans (heap_alloc_new _ _); have n0 := Lib.cell_of_heap nb 0; have n1 := Lib.cell_of_heap nb 1; have n2 := Lib.frozen_of_heap nb 0; have n3 := Lib.frozen_of_heap nb 1; simp at n0 n1 n2 n3) | skip); clear bn)
     | (go_at_call_of 124 [Value.agg #[Value.string (I rm.num), Value.string (dn rm)], Value.agg #[Value.string (I rc.num), Value.string (dn rc)]]; refine (HC4.out _ ?_).mono ?_; (first | exact hg | exact hg.below ((Below.refl _ _).alloc (Nat.le_refl _) _)); clear hg c6 c7 o4 o5; rintro e wn ⟨rfl, hg, bn, c6, c7, o4, o5⟩; have ne1 := hg.ne1; have ne2 := hg.ne2; have lt1 := hg.lt; (first | (have nb := (bn.block _ (Array.getElem?_eq_some_iff.1 nb).1).trans nb; have n0 := Lib.cell_of_heap nb 0; have n1 := Lib.cell_of_heap nb 1; have n2 := Lib.frozen_of_heap nb 0; have n3 := Lib.frozen_of_heap nb 1; simp at n0 n1 n2 n3) | (have nb := (bn.block _ (by simp)).trans (heap_alloc_new _ _); have n0 := Lib.cell_of_heap nb 0; have n1 := Lib.cell_of_heap nb 1; have n2 := Lib.frozen_of_heap nb 0; have n3 := Lib.frozen_of_heap nb 1; simp at n0 n1 n2 n3) | skip); clear bn))
  all_goals (first | go_wp2_with fail | skip)
  all_goals go_meet
  all_goals first
   | exact ⟨_, _, rfl, lt1, heap_alloc_new _ _, hg.below ((Below.refl _ _).alloc (Nat.le_refl _) _), rfl⟩
   | (refine ⟨_, _, rfl, ?_, set2 nb _ _, hg.set2 ?_ _ _, rfl⟩ <;> assumption)
 case rest =>
  obtain ⟨B, wr, rfl, hBB, hF, hG, rfl⟩ := hcut
  clear c1 c5 c6 c7 o3 o4 o5 HG hW0 HC2 HC3 HC4
  have c5 : wr.cell? ⟨w.heap.size, 5, none⟩ = some (.int .i64 i.matures) := Lib.cell_of_heap hG.ib 5
  have o3 : wr.cell? ⟨w.heap.size + 1, 3, none⟩ = some (.int .i64 l.opn) := Lib.cell_of_heap hG.lb 3
  have b0 := Lib.cell_of_heap hF 0
  have b1 := Lib.cell_of_heap hF 1
  have r0 := Lib.cell_of_heap hG.rb 0
  have r1 := Lib.cell_of_heap hG.rb 1
  have f0 := Lib.frozen_of_heap hG.rb 0
  have f1 := Lib.frozen_of_heap hG.rb 1
  simp at b0 b1 r0 r1 f0 f1
  have hg : EF w i l B ra wr := ⟨hG, hF, hBB⟩
  clear hG hF
  by_cases hm : i.matures ≤ d
  ·have t3 : decide (i.matures ≤ d) = true := decide_eq_true hm
   have HQ2 : Hid (exactQ i l d = ra) := by rw [Hid, HQ.out, if_pos hm]
   clear hm HQ
   go_wp2_with fail
   have hd := hg.eg.done ra
   generalize (wr.setCell ⟨w.heap.size + 1 + 1, 0, none⟩ (.string (I ra.num))).setCell ⟨w.heap.size + 1 + 1, 1, none⟩ (.string (dn ra)) = W9 at hd ⊢
   have m0 := Lib.cell_of_heap hd.1 0
   have m1 := Lib.cell_of_heap hd.1 1
   simp at m0 m1
   refine bodyPost_ret (v := .agg #[.string (I ra.num), .string (dn ra)]) (by simp [results, Tryz.results69, go_sem, m0, m1]) rfl ⟨?_, hd.2⟩
   rw [HQ2.out]; rfl
  ·have t3 : decide (i.matures ≤ d) = false := decide_eq_false hm
   unfold okDay at e1 e2 e3
   have HQ2 : Hid (exactQ i l d = ra * (((d - l.opn : Int) : Rat) / ((i.matures - l.opn : Int) : Rat))) := by rw [Hid, HQ.out, if_neg hm]
   obtain ⟨x, hx⟩ : ∃ x, x = d - l.opn := ⟨_, rfl⟩
   obtain ⟨y, hy⟩ : ∃ y, y = i.matures - l.opn := ⟨_, rfl⟩
   have wx : IntKind.i64.wrap (d - l.opn) = x := by rw [hx]; exact IntWalk.i64_in _ (by omega)
   have wy : IntKind.i64.wrap (i.matures - l.opn) = y := by rw [hy]; exact IntWalk.i64_in _ (by omega)
   have x0 : 0 ≤ x ∧ x < 1000000 := by omega
   have y0 : 0 < y ∧ y < 1000000 := by omega
   rw [← hx, ← hy] at HQ2
   have D1 := fun W (_ : Tabs W) => (rOf_any x (by omega) W).mono (fun e w' (h : e = .returned (.string (I x)) ∧ W = w') => (⟨h.1, by rw [← h.2]; exact Below.refl _ _⟩ : e = .returned (.string (I x)) ∧ Below W.heap.size W w'))
   have D2 := fun W (_ : Tabs W) => (rOf_any y (by omega) W).mono (fun e w' (h : e = .returned (.string (I y)) ∧ W = w') => (⟨h.1, by rw [← h.2]; exact Below.refl _ _⟩ : e = .returned (.string (I y)) ∧ Below W.heap.size W w'))
   have D3 := fun W (_ : Tabs W) => rfNewI (x := x) (y := y) (a := 7) (by omega) (by omega) (by omega) (by omega) W
   have bp : BdQ (Rat.divInt x y) 7 := BdQ.div (by omega) (by omega) (by omega)
   have D4 := fun W (_ : Tabs W) => rfMulQ (k := K + K + K + 1) HBM.out.2 (bp.mono (by have := HKK.out; omega)) (by have := HKK.out; omega) W
   rw [← Rat.divInt_eq_div] at HQ2
   generalize Rat.divInt x y = rp at *
   generalize ra * rp = rz at *
   unfold fenc at D3 D4
   have HD1 := Lib.hid (EF.calls (i := i) (l := l) (B := B) (q := ra) HT.out D1)
   have HD2 := Lib.hid (EF.calls (i := i) (l := l) (B := B) (q := ra) HT.out D2)
   have HD3 := Lib.hid (EF.calls (i := i) (l := l) (B := B) (q := ra) HT.out D3)
   have HD4 := Lib.hid (EF.calls (i := i) (l := l) (B := B) (q := ra) HT.out D4)
   clear hx hy D1 D2 D3 D4 bp e1 e2 e3 hm HQ x0 y0 ho
   go_wp2_with fail
   go_cut [8] (fun v8 wx => ∃ (B2 : Nat) (wr : World), v8 = .pointer (some ⟨B2, 0, none⟩) ∧ FBox wr B2 rp ∧ EF w i l B ra wr ∧ wr = wx)
   case first =>
    have ne1 := hg.ne1
    have ne2 := hg.ne2
    have lt1 := hg.blt
    replace hg : EF w i l B ra wr.drew := hg.below (Below.refl _ _).drew
    clear b0 b1 r0 r1 f0 f1
    go_region_held3 (fun W => W.cell? ⟨w.heap.size, 5, none⟩ = some (.int .i64 i.matures) ∧ W.cell? ⟨w.heap.size + 1, 3, none⟩ = some (.int .i64 l.opn))
     (((try dsimp only); refine ⟨?_, ?_⟩ <;> first | assumption | (simp [*, World.cell?_alloc_some, World.cell?_setCell_far]; done) | (go_simp; done)))
     (first
       | (go_at_call_of 128 [Value.int IntKind.i64 x]; refine (HD1.out _ ?_).mono ?_; (first | exact hg | exact hg.below ((Below.refl _ _).alloc (Nat.le_refl _) _)); clear hg c5 o3; rintro e wn ⟨rfl, hg, bn, c5, o3⟩; have ne1 := hg.ne1; have ne2 := hg.ne2; have lt1 := hg.blt; (first | (have nb := (bn.block _ (Array.getElem?_eq_some_iff.1 nb).1).trans nb; have n0 := Lib.cell_of_heap nb 0; have n1 := Lib.cell_of_heap nb 1; have n2 := Lib.frozen_of_heap nb 0; have n3 := Lib.frozen_of_heap nb 1; simp at n0 n1 n2 n3) | (have nb := (bn.block _ (by simp)).trans (heap_alloc_new _ _); have n0 := Lib.cell_of_heap nb 0; have n1 := Lib.cell_of_heap nb 1; have n2 := Lib.frozen_of_heap nb 0; have n3 := Lib.frozen_of_heap nb 1; simp at n0 n1 n2 n3) | skip); clear bn)
       | (go_at_call_of 128 [Value.int IntKind.i64 y]; refine (HD2.out _ ?_).mono ?_; (first | exact hg | exact hg.below ((Below.refl _ _).alloc (Nat.le_refl _) _)); clear hg c5 o3; rintro e wn ⟨rfl, hg, bn, c5, o3⟩; have ne1 := hg.ne1; have ne2 := hg.ne2; have lt1 := hg.blt; (first | (have nb := (bn.block _ (Array.getElem?_eq_some_iff.1 nb).1).trans nb; have n0 := Lib.cell_of_heap nb 0; have n1 := Lib.cell_of_heap nb 1; have n2 := Lib.frozen_of_heap nb 0; have n3 := Lib.frozen_of_heap nb 1; simp at n0 n1 n2 n3) | (have nb := (bn.block _ (by simp)).trans (heap_alloc_new _ _); have n0 := Lib.cell_of_heap nb 0; have n1 := Lib.cell_of_heap nb 1; have n2 := Lib.frozen_of_heap nb 0; have n3 := Lib.frozen_of_heap nb 1; simp at n0 n1 n2 n3) | skip); clear bn)
       | (go_at_call_of 127 [Value.string (I x), Value.string (I y)]; refine (HD3.out _ ?_).mono ?_; (first | exact hg | exact hg.below ((Below.refl _ _).alloc (Nat.le_refl _) _)); clear hg c5 o3; rintro e wn ⟨rfl, hg, bn, c5, o3⟩; have ne1 := hg.ne1; have ne2 := hg.ne2; have lt1 := hg.blt; (first | (have nb := (bn.block _ (Array.getElem?_eq_some_iff.1 nb).1).trans nb; have n0 := Lib.cell_of_heap nb 0; have n1 := Lib.cell_of_heap nb 1; have n2 := Lib.frozen_of_heap nb 0; have n3 := Lib.frozen_of_heap nb 1; simp at n0 n1 n2 n3) | (have nb := (bn.block _ (by simp)).trans (heap_alloc_new _ _); have n0 := Lib.cell_of_heap nb 0; have n1 := Lib.cell_of_heap nb 1; have n2 := Lib.frozen_of_heap nb 0; have n3 := Lib.frozen_of_heap nb 1; simp at n0 n1 n2 n3) | skip); clear bn))
    all_goals (first | go_wp2_with fail | skip)
    all_goals go_meet
    all_goals first
     | exact ⟨_, _, rfl, heap_alloc_new _ _, hg.below ((Below.refl _ _).alloc (Nat.le_refl _) _), rfl⟩
     | (refine ⟨_, _, rfl, set2 nb _ _, hg.set2 ?_ _ _, rfl⟩; assumption)
   case rest =>
    obtain ⟨B2, wq, rfl, hF2, hG2, rfl⟩ := hcut
    clear b0 b1 r0 r1 f0 f1 c5 o3
    have b0 := Lib.cell_of_heap hG2.fb 0
    have b1 := Lib.cell_of_heap hG2.fb 1
    have p0 := Lib.cell_of_heap hF2 0
    have p1 := Lib.cell_of_heap hF2 1
    simp at b0 b1 p0 p1
    have HG2 := Lib.hid hG2
    clear hG2 hF2 hg
    go_wp2_with fail
    refine (HD4.out _ HG2.out).mono ?_
    rintro e w7 ⟨rfl, hg, _, _⟩
    have r0 := Lib.cell_of_heap hg.eg.rb 0
    have r1 := Lib.cell_of_heap hg.eg.rb 1
    have f0 := Lib.frozen_of_heap hg.eg.rb 0
    have f1 := Lib.frozen_of_heap hg.eg.rb 1
    simp at r0 r1 f0 f1
    have HG := Lib.hid hg
    clear hg
    go_wp2_with fail
    have hd := HG.out.eg.done rz
    generalize (w7.setCell ⟨w.heap.size + 1 + 1, 0, none⟩ (.string (I rz.num))).setCell ⟨w.heap.size + 1 + 1, 1, none⟩ (.string (dn rz)) = W9 at hd ⊢
    have m0 := Lib.cell_of_heap hd.1 0
    have m1 := Lib.cell_of_heap hd.1 1
    simp at m0 m1
    refine bodyPost_ret (v := .agg #[.string (I rz.num), .string (dn rz)]) (by simp [results, Tryz.results69, go_sem, m0, m1]) rfl ⟨?_, hd.2⟩
    rw [HQ2.out]; rfl
theorem exact39_any (i : Inst) (l : Lot) (d : Int) (s1 : i.fn.size ≤ 1000) (s2 : i.fd.size ≤ 1000) (hcq : CanQ i.fn i.fd) (hd : okDay d) (hmt : i.kind = 2 → okDay i.matures) (hs : l.sized) (ho : okDay l.opn) (w : World) (ht : Tabs w) :
 Calls Tryz.prog 69 #[i.enc, l.enc, .int .i64 d] w fun e w' => e = .returned (fenc (exactQ i l d)) ∧ Below w.heap.size w w' := by
 by_cases hz : i.kind ≠ 2 ∨ d < l.opn
 ·exact exact39_zero i l d hz w
 ·have hk : i.kind = 2 := by
   rcases Decidable.em (i.kind = 2) with e | e
   ·exact e
   ·exact absurd (.inl e) hz
  exact exact39_some i l d hk (by omega) s1 s2 hs.2.2.1 hs.2.2.2.1 hcq hd ho (hmt hk) w ht
end Go.Proofs.YtpgjmdggblnfkaaGreatDoor
