/-
  The walk of trancheref02.reduced (short numbers).
-/
import Derived.Test.YthmfkgcoocikjaaGreatDoorP14
set_option linter.unusedVariables false
set_option linter.unusedSimpArgs false
namespace Go.Proofs.YthmfkgcoocikjaaGreatDoor
open Go.RowKit Tr

set_option maxHeartbeats 4000000 in
theorem rreduced_short (n d : ByteArray) (ha : n.size ≤ 1000000) (hb : d.size ≤ 1000000) (hx : (vl n).natAbs < 100000000000000000) (hy : (vl d).natAbs < 100000000000000000) (hp : 0 < vl d) (w : World) :
    Calls Tryz.prog 172 #[.string n, .string d] w fun e w' => e = .returned (fenc (Rat.divInt (vl n) (vl d))) ∧ Below w.heap.size w w' := by
  have HZ := Lib.hid (rzero_any n ha)
  have HB := Lib.hid ((Below.refl _ w).alloc (Nat.le_refl _) (Obj.cells #[.string ⟨#[]⟩, .string ⟨#[]⟩] 42))
  by_cases h0 : vl n = 0
  · rw [h0] at HZ
    have HR : Hid (fenc (Rat.divInt (vl n) (vl d)) = .agg #[.string ⟨#[]⟩, .string ⟨#[]⟩]) := by
      show _ = _
      rw [h0, Rat.zero_divInt]; kernel_rfl
    clear h0 ha hb hx hy hp
    obtain ⟨W0, hW0⟩ : ∃ W0, w.alloc (Obj.cells #[.string ⟨#[]⟩, .string ⟨#[]⟩] 42) = W0 := ⟨_, rfl⟩
    have k1 : W0.heap[w.heap.size]? = some (Obj.cells #[.string ⟨#[]⟩, .string ⟨#[]⟩] 42) := by rw [← hW0]; exact heap_alloc_new w _
    have a0 := Lib.cell_of_heap k1 0
    have a1 := Lib.cell_of_heap k1 1
    simp at a0 a1
    have f0 := Lib.frozen_of_heap k1 0
    have f1 := Lib.frozen_of_heap k1 1
    have K1 := Lib.hid k1
    rw [hW0] at HB
    clear k1
    go_enter Tryz.func172, Tryz.ntmps172
    go_wp2_with fail
    try rw [hW0]
    refine (HZ.out _).mono ?_
    rintro e w1 ⟨rfl, rfl⟩
    go_wp2_with fail
    have k2 := set2 K1.out (.string ⟨#[]⟩) (.string ⟨#[]⟩)
    have m0 := Lib.cell_of_heap k2 0
    have m1 := Lib.cell_of_heap k2 1
    simp at m0 m1
    refine bodyPost_ret (v := .agg #[.string ⟨#[]⟩, .string ⟨#[]⟩]) (by simp [results, Tryz.results172, go_sem, m0, m1]) rfl ?_
    exact ⟨by rw [HR.out], (HB.out.setCell (p := ⟨w.heap.size, 0, none⟩) (Nat.le_refl _) _).setCell (p := ⟨w.heap.size, 1, none⟩) (Nat.le_refl _) _⟩
  have hz : (vl n == 0) = false := by rw [beq_eq_false_iff_ne]; exact h0
  have HG := Lib.hid (rGcd_short n d ha hb hx hy)
  have hgp : 0 < Int.gcd (vl n) (vl d) := Int.gcd_pos_of_ne_zero_right _ (by omega)
  have hgl : Int.gcd (vl n) (vl d) ≤ (vl d).natAbs := Nat.le_of_dvd (by omega) (Int.gcd_dvd_natAbs_right _ _)
  have gs : (I ((Int.gcd (vl n) (vl d) : Nat) : Int)).size ≤ 1000000 := Nat.le_trans (I_size_le (k := 17) (by rw [Int.natAbs_natCast]; omega)) (by decide)
  have e1 : vl n / ((Int.gcd (vl n) (vl d) : Nat) : Int) = (Rat.divInt (vl n) (vl d)).num := by rw [← red_num hp, dq_pos (by omega)]
  have e2 : vl d / ((Int.gcd (vl n) (vl d) : Nat) : Int) = ((Rat.divInt (vl n) (vl d)).den : Int) := by rw [← red_den hp, dq_pos (by omega)]
  have HE1 := fun W => rexact_short n (I ((Int.gcd (vl n) (vl d) : Nat) : Int)) ha gs hx (by rw [vl_I, Int.natAbs_natCast]; omega) (by rw [vl_I]; omega) W
  have HE2 := fun W => rexact_short d (I ((Int.gcd (vl n) (vl d) : Nat) : Int)) hb gs hy (by rw [vl_I, Int.natAbs_natCast]; omega) (by rw [vl_I]; omega) W
  rw [vl_I, e1] at HE1
  rw [vl_I, e2] at HE2
  have hdl : ((Rat.divInt (vl n) (vl d)).den : Int).natAbs < 10 ^ 17 := by
    rw [← e2, Int.natAbs_ediv_of_nonneg (by omega)]
    exact Nat.lt_of_le_of_lt (Nat.div_le_self _ _) (by omega)
  have HE1 := Lib.hid HE1
  have HE2 := Lib.hid HE2
  change Hid (∀ w, Calls Tryz.prog 214 #[.string n, .string d] w fun e w' => e = .returned (.string (I ((Int.gcd (vl n) (vl d) : Nat) : Int))) ∧ Below w.heap.size w w') at HG
  clear ha hb hx hy hp h0 hgp hgl gs e1 e2
  generalize Int.gcd (vl n) (vl d) = g at *
  generalize Rat.divInt (vl n) (vl d) = q at *
  have zd : (I (q.den : Int)).size ≤ 1000000 := Nat.le_trans (I_size_le hdl) (by decide)
  have HC := fun W => rCompare_any (I (q.den : Int)) one1 zd (by decide) W
  rw [vl_I, show vl one1 = 1 from by rw [one1_eq, vl_I]] at HC
  clear hdl zd
  obtain ⟨W0, hW0⟩ : ∃ W0, w.alloc (Obj.cells #[.string ⟨#[]⟩, .string ⟨#[]⟩] 42) = W0 := ⟨_, rfl⟩
  have hk : W0.heap[w.heap.size]? = some (Obj.cells #[.string ⟨#[]⟩, .string ⟨#[]⟩] 42) := by rw [← hW0]; exact heap_alloc_new w _
  rw [hW0] at HB
  have HK := Lib.hid hk
  clear hk
  go_enter Tryz.func172, Tryz.ntmps172
  go_wp2_with fail
  try rw [hW0]
  refine (HZ.out _).mono ?_
  rintro e w1 ⟨rfl, rfl⟩
  go_wp2_with fail
  refine (HG.out _).mono ?_
  rintro e w1 ⟨rfl, b1⟩
  have HB1 := Lib.hid b1
  clear b1
  go_wp2_with fail
  refine (HE1.out _).mono ?_
  rintro e w2 ⟨rfl, b2⟩
  have HB2 := Lib.hid b2
  clear b2
  go_wp2_with fail
  refine (HE2.out _).mono ?_
  rintro e w3 ⟨rfl, b3⟩
  have b13 := (HB1.out.trans (HB2.out.mono HB1.out.size)).trans (b3.mono (Nat.le_trans HB1.out.size HB2.out.size))
  have k3 := (b13.block _ (Array.getElem?_eq_some_iff.1 HK.out).1).trans HK.out
  have hlt := (Array.getElem?_eq_some_iff.1 k3).1
  have ne3 : w3.heap.size ≠ w.heap.size := by omega
  have ne4 : w.heap.size ≠ w3.heap.size := by omega
  have HB3 := Lib.hid (HB.out.trans (b13.mono HB.out.size))
  have HW4 := Lib.hid ((Below.refl _ w3).alloc (Nat.le_refl _) (Obj.cells #[.string (I q.num), .string (I (q.den : Int))] 42))
  obtain ⟨W4, hW4⟩ : ∃ W4, w3.alloc (Obj.cells #[.string (I q.num), .string (I (q.den : Int))] 42) = W4 := ⟨_, rfl⟩
  have k4 : W4.heap[w3.heap.size]? = some (Obj.cells #[.string (I q.num), .string (I (q.den : Int))] 42) := by rw [← hW4]; exact heap_alloc_new w3 _
  rw [hW4] at HW4
  have k5 := (HW4.out.block _ hlt).trans k3
  have c0 := Lib.cell_of_heap k4 0
  have c1 := Lib.cell_of_heap k4 1
  have g1 := Lib.frozen_of_heap k4 1
  have a0 := Lib.cell_of_heap k5 0
  have a1 := Lib.cell_of_heap k5 1
  have f0 := Lib.frozen_of_heap k5 0
  have f1 := Lib.frozen_of_heap k5 1
  simp at c0 c1 a0 a1
  have HB4 := Lib.hid (HB3.out.trans (HW4.out.mono (Nat.le_of_lt hlt)))
  have K4 := Lib.hid k4
  have K5 := Lib.hid k5
  clear b3 b13 k3 k4 k5 HB HB1 HB2 HB3 HW4 HK HE1 HE2 HG HZ
  by_cases hq : q.den = 1
  · rw [show cmpI (q.den : Int) 1 = 0 from cmpI_eq.2 (by omega)] at HC
    have HC := Lib.hid HC
    have HQ := Lib.hid hq
    clear hq
    go_wp2_with fail
    try rw [hW4]
    go_quiet ((first | (go_at_call 213; exact q_same (rone_any _)) | (go_at_call 59; exact q_same (HC.out _))))
    go_wp2_with fail
    have k6 : ((W4.drewN nq).setCell ⟨w3.heap.size, 1, none⟩ (.string ⟨#[]⟩)).heap[w.heap.size]? = some (Obj.cells #[.string ⟨#[]⟩, .string ⟨#[]⟩] 42) := (Below.heap_setCell _ _ _ _ (by simp; omega)).trans (by simpa using K5.out)
    have k2 := set2 k6 (.string (I q.num)) (.string ⟨#[]⟩)
    have m0 := Lib.cell_of_heap k2 0
    have m1 := Lib.cell_of_heap k2 1
    simp at m0 m1
    refine bodyPost_ret (v := .agg #[.string (I q.num), .string ⟨#[]⟩]) (by simp [results, Tryz.results172, go_sem, m0, m1]) rfl ?_
    refine ⟨?_, (Below.setCell (p := ⟨w.heap.size, 0, none⟩) ((below_drewN HB4.out nq).setCell (p := ⟨w3.heap.size, 1, none⟩) (by simp; omega) _) (Nat.le_refl _) _).setCell (p := ⟨w.heap.size, 1, none⟩) (Nat.le_refl _) _⟩
    unfold fenc dn
    rw [if_pos HQ.out]
  · have hc1 : (cmpI (q.den : Int) 1 == 0) = false := by rw [beq_eq_false_iff_ne, Ne, cmpI_eq]; omega
    have HC := Lib.hid HC
    have HQ := Lib.hid hq
    clear hq
    go_wp2_with fail
    try rw [hW4]
    go_quiet ((first | (go_at_call 213; exact q_same (rone_any _)) | (go_at_call 59; exact q_same (HC.out _))))
    go_wp2_with fail
    have k6 : (W4.drewN nq).heap[w.heap.size]? = some (Obj.cells #[.string ⟨#[]⟩, .string ⟨#[]⟩] 42) := by simpa using K5.out
    have k2 := set2 k6 (.string (I q.num)) (.string (I (q.den : Int)))
    have m0 := Lib.cell_of_heap k2 0
    have m1 := Lib.cell_of_heap k2 1
    simp at m0 m1
    refine bodyPost_ret (v := .agg #[.string (I q.num), .string (I (q.den : Int))]) (by simp [results, Tryz.results172, go_sem, m0, m1]) rfl ?_
    refine ⟨?_, (Below.setCell (p := ⟨w.heap.size, 0, none⟩) (below_drewN HB4.out nq) (Nat.le_refl _) _).setCell (p := ⟨w.heap.size, 1, none⟩) (Nat.le_refl _) _⟩
    unfold fenc dn
    rw [if_neg HQ.out]
end Go.Proofs.YthmfkgcoocikjaaGreatDoor
