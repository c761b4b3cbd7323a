/-
  tranchelaw19.LotCut returns true: every lot and quantity.
-/
import Derived.Test.YthmfkgcoocikjaaGreatDoorC49
set_option linter.unusedVariables false
set_option linter.unusedSimpArgs false
namespace Go.Proofs.YthmfkgcoocikjaaGreatDoor
open Go.RowKit Tr Go.Shelf
theorem cut_ok {l : Lot} {q : ByteArray} (hti : l.tiny) (h : l.ok) (hq : Can q) (q1 : q.size ≤ 13) (q0 : 0 < vl q) (q2 : vl q < vl l.qty) : CutOk l q (cutA l q) (cutB l q) := by
 obtain ⟨z1, z2⟩ := share_bounds (t := vl l.cost) (p := vl q) (a := vl l.qty) h.pc (by omega) h.pq (by omega)
 have hZ : cutZ l q = shareZ (vl l.cost) (vl q) (vl l.qty) := rfl
 have hbc : (vl l.cost).natAbs < 10 ^ 13 := Nat.lt_of_lt_of_le (vl_lt l.cost) (pow_mono hti.2.1)
 have hbq : (vl l.qty).natAbs < 10 ^ 13 := Nat.lt_of_lt_of_le (vl_lt l.qty) (pow_mono hti.1)
 have s1 : (I (cutZ l q)).size ≤ 14 := I_size_le (k := 13) (by rw [hZ]; omega)
 have s2 : (I (vl l.qty - vl q)).size ≤ 14 := I_size_le (k := 13) (by omega)
 have s3 : (I (vl l.cost - cutZ l q)).size ≤ 14 := I_size_le (k := 13) (by rw [hZ]; omega)
 have hU : ∀ x : ByteArray, x.size ≤ 1000 → (cutU l x).size ≤ 1000 := by
  intro x hx
  unfold cutU
  split
  ·decide
  ·exact hx
 have hUc : ∀ x : ByteArray, Can x → Can (cutU l x) := by
  intro x hx
  unfold cutU
  split
  ·rfl
  ·exact hx
 have hUs : ∀ x : ByteArray, cutU l x = ⟨#[]⟩ ∨ cutU l x = x := by
  intro x
  unfold cutU
  split
  ·exact .inl rfl
  ·exact .inr rfl
 have hCI : ∀ z : Int, Can (I z) := fun z => by unfold Can; rw [vl_I]
 obtain ⟨t1, t2, t3, t4, t5⟩ := hti
 refine ⟨⟨⟨by show l.id.size ≤ _; omega, by show l.inst.size ≤ _; omega, by show q.size ≤ _; omega, by show (I _).size ≤ _; omega, hU q (by omega)⟩, ?_⟩, ⟨⟨by show l.id.size ≤ _; omega, by show l.inst.size ≤ _; omega, by show (I _).size ≤ _; omega, by show (I _).size ≤ _; omega, hU _ (by omega)⟩, ?_⟩, rfl, ?_, ?_, ?_, h.pq⟩
 ·exact { id := h.id, inst := h.inst, acq := h.acq, opn := h.opn, ord := h.ord, cq := hq, cc := hCI _, cu := hUc q hq, pq := q0, pc := by show 0 ≤ vl (I _); rw [vl_I, hZ]; exact z1, us := hUs q }
 ·exact { id := h.id, inst := h.inst, acq := h.acq, opn := h.opn, ord := h.ord, cq := hCI _, cc := hCI _, cu := hUc _ (hCI _), pq := by show 0 < vl (I _); rw [vl_I]; omega, pc := by show 0 ≤ vl (I _); rw [vl_I, hZ]; omega, us := hUs _ }
 ·show I (vl q + vl (I (vl l.qty - vl q))) = l.qty
  rw [vl_I, show vl q + (vl l.qty - vl q) = vl l.qty from by omega]
  exact h.cq
 ·show I (vl (I (cutZ l q)) + vl (I (vl l.cost - cutZ l q))) = l.cost
  rw [vl_I, vl_I, show cutZ l q + (vl l.cost - cutZ l q) = vl l.cost from by omega]
  exact h.cc
 ·show vl (I (cutZ l q)) = _
  rw [vl_I, hZ]
theorem LotCut_tiny (l : Lot) (q : ByteArray) (hti : l.tiny) (q13 : q.size ≤ 13) (w : World) (ht : Tabs w) : Calls Tryz.prog 4 #[l.enc, .string q] w (TruePost19 w) := by
 have hs := hti.sized
 by_cases h : lchk l = 0
 case neg => exact LotCut_gen l zeroLot zeroLot q 1 hti q13 (fun W hW => lCut_e1 l q hs (by omega) h W hW) (fun W hW => rCut19_e1 l q hti q13 h W hW) (fun e => by omega) w ht
 have hok := lchk_zero.1 h
 by_cases hq : Can q
 case neg => exact LotCut_gen l zeroLot zeroLot q 1 hti q13 (fun W hW => lCut_e2 l q hs (by omega) hok hq W hW) (fun W hW => rCut19_e2 l q hti q13 hok hq W hW) (fun e => by omega) w ht
 rcases Int.lt_or_le 0 (vl q) with h0 | h0
 case inr => exact LotCut_gen l zeroLot zeroLot q 2 hti q13 (fun W hW => lCut_e3 l q hs (by omega) hok hq h0 W hW) (fun W hW => rCut19_e3 l q hti q13 hok hq h0 W hW) (fun e => by omega) w ht
 rcases Int.lt_or_le (vl q) (vl l.qty) with h1 | h1
 case inr => exact LotCut_gen l zeroLot zeroLot q 2 hti q13 (fun W hW => lCut_e4 l q hs (by omega) hok hq h0 h1 W hW) (fun W hW => rCut19_e4 l q hti q13 hok hq h0 h1 W hW) (fun e => by omega) w ht
 exact LotCut_gen l (cutA l q) (cutB l q) q 0 hti q13 (fun W hW => lCut_ok l q hs hok hq (by omega) h0 h1 W hW) (fun W hW => rCut19_ok l q hti hok hq q13 h0 h1 W hW) (fun _ => cut_ok hti hok hq q13 h0 h1) w ht
set_option maxHeartbeats 4000000 in
set_option maxRecDepth 100000 in
theorem LotCut_any (l : Lot) (q : ByteArray) (w : World) (hqm : q.size ≤ 9223372036854775807) (ht : Tabs w) : Calls Tryz.prog 4 #[l.enc, .string q] w (TruePost19 w) := by
 by_cases h : l.tiny ∧ q.size ≤ 13
 ·exact LotCut_tiny l q h.1 h.2 w ht
 have HT := Lib.hid ht
 have HN := Lib.hid h
 obtain ⟨W0, hW0, hB0, hk0⟩ := lbox l w
 have HB0 := Lib.hid hB0
 have c0 := Lib.cell_of_heap hk0 0
 have c1 := Lib.cell_of_heap hk0 1
 have c2 := Lib.cell_of_heap hk0 2
 have c3 := Lib.cell_of_heap hk0 3
 have c4 := Lib.cell_of_heap hk0 4
 have c5 := Lib.cell_of_heap hk0 5
 have c6 := Lib.cell_of_heap hk0 6
 simp [Lot.cells] at c0 c1 c2 c3 c4 c5 c6
 clear ht h hB0 hk0
 unfold Lot.enc Lot.cells at *
 go_enter Tryz.func4, Tryz.ntmps4
 go_wp2_with fail
 refine (rGreatOne_any l W0).mono ?_
 rintro e w1 ⟨g, rfl, hg, b1⟩
 have HB1 := Lib.hid (HB0.out.trans (b1.mono HB0.out.size))
 have HG := Lib.hid hg
 clear b1 HB0 c0 c1 c2 c3 c4 c5 c6 hW0 hg
 cases g
 case true =>
  go_wp2_with fail
  refine (awake19_any _ (HT.out.below HB1.out)).mono ?_
  rintro e wz ⟨rfl, bz⟩
  have HZ := Lib.hid (HB1.out.trans (bz.mono HB1.out.size))
  clear bz
  go_wp2_with fail
  go_ret
  exact ⟨rfl, HZ.out⟩
 have hlong : 13 < q.size := by
  have h1 := HG.out rfl
  have h2 := HN.out
  rcases Nat.lt_or_ge 13 q.size with h3 | h3
  ·exact h3
  ·exact absurd ⟨h1, h3⟩ h2
 have hlen : decide ((13 : Int) < (q.size : Int)) = true := decide_eq_true (by omega)
 clear HG HN
 go_wp2_with fail
 refine (awake19_any _ (HT.out.below HB1.out)).mono ?_
 rintro e wz ⟨rfl, bz⟩
 have HZ := Lib.hid (HB1.out.trans (bz.mono HB1.out.size))
 clear bz
 go_wp2_with fail
 go_ret
 exact ⟨rfl, HZ.out⟩
end Go.Proofs.YthmfkgcoocikjaaGreatDoor
