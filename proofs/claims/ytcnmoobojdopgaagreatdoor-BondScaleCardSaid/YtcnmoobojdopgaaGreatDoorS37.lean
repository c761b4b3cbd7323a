/-
  The walks of trancheref02.Long, tranchelaw11.long over fractions in memory; two boxes of fractions swapped; what is left, summed up.
  Signs and sizes of interest, coupons, present values.
  Sizes of flows and coupons.
  What tranchelaw11.fine answers, as a function of the instrument. (Printed by gen_fx.py.)
-/
import Derived.Test.YtcnmoobojdopgaaGreatDoorS36
set_option linter.unusedVariables false
set_option linter.unusedSimpArgs false
set_option maxHeartbeats 16000000
set_option maxRecDepth 100000
namespace Go.Proofs.YtcnmoobojdopgaaGreatDoor
open Go.RowKit Tr Go.Shelf
def fcV (l : List (ByteArray × ByteArray)) : List Value := l.flatMap fun f => [.string f.1, .string f.2]
theorem fcV_get : ∀ (l : List (ByteArray × ByteArray)) (j : Nat) (q : ByteArray × ByteArray), l[j]? = some q → (fcV l)[j * 2]? = some (.string q.1) ∧ (fcV l)[j * 2 + 1]? = some (.string q.2)
 | [], j, p, h => by simp at h
 | x :: r, 0, p, h => by
   simp at h; subst h
   simp [fcV]
 | x :: r, j + 1, p, h => by
   simp at h
   have := fcV_get r j p h
   simp only [fcV, List.flatMap_cons] at this ⊢
   rw [show (j + 1) * 2 = j * 2 + 2 from by omega]
   simpa using this
theorem add_cells {b n : Nat} {ad : Addr} (had : ad = ⟨b, 0, none⟩) : ad.add n = ⟨b, n, none⟩ := by
 rw [had, add_noneF _ rfl]; simp
open Classical in
noncomputable def propB (P : Prop) : Bool := decide P
theorem propB_iff {P : Prop} : propB P = true ↔ P := by unfold propB; simp
theorem propB_no {P : Prop} (h : ¬ P) : propB P = false := by unfold propB; simp [h]
def Short13 (l : List (ByteArray × ByteArray)) : Prop := ∀ q ∈ l, q.1.size ≤ 13 ∧ q.2.size ≤ 13
theorem rfLong_ex (l : List (ByteArray × ByteArray)) (N b : Nat) (hN : l.length = N) (hm : N ≤ 1000000) (w : World) (hk : w.heap[b]? = some (.cells (fcV l).toArray 25 (0, 0))) :
 Calls Tryz.prog 39 #[.slice (some ⟨b, 0, none⟩) N N] w fun e w' => e = .returned (.bool (!propB (Short13 l))) ∧ w = w' := by
 obtain ⟨ad, had⟩ : ∃ ad : Addr, ad = ⟨b, 0, none⟩ := ⟨_, rfl⟩
 rw [← had]
 have HC : Hid (∀ (k : Nat) (q : ByteArray × ByteArray), l[k]? = some q → w.cell? (ad.add (k * 2)) = some (.string q.1) ∧ w.cell? ⟨(ad.add (k * 2)).block, (ad.add (k * 2)).off + 1, none⟩ = some (.string q.2)) := fun k q hq => by
  rw [add_cells had]
  obtain ⟨e0, e1⟩ := fcV_get l k q hq
  refine ⟨?_, ?_⟩
  ·rw [Lib.cell_of_heap hk (k * 2), List.getElem?_toArray]; exact e0
  ·show w.cell? ⟨b, k * 2 + 1, none⟩ = _
   rw [Lib.cell_of_heap hk (k * 2 + 1), List.getElem?_toArray]; exact e1
 have HN := hI hN
 clear hk had hN
 go_enter Tryz.func39, Tryz.ntmps39
 go_wp2_with fail
 go_loop [3] (fun v => ∃ k : Nat, v = .int .i64 (k : Int) ∧ k ≤ N ∧ Short13 (l.take k)) (fun v => N - (intOf v).toNat)
 case atStart => exact ⟨0, rfl, by omega, fun q hq => by simp at hq⟩
 case round =>
  obtain ⟨k, rfl, hk, hs⟩ := hrel
  have HS := hI hs
  clear hs
  rcases Nat.lt_or_ge k N with hlt | hge
  ·obtain ⟨⟨x, y⟩, hq⟩ : ∃ q, l[k]? = some q := ⟨_, List.getElem?_eq_getElem (by rw [HN.out]; exact hlt)⟩
   obtain ⟨c0, c1⟩ := HC.out k _ hq
   simp only at c0 c1
   have HTK := hI (take_snocF hq)
   have HMM := hI (List.mem_of_getElem? hq)
   have hcx : decide ((k : Int) < (N : Int)) = true := by simp; omega
   have hki : (k : Int) < (N : Int) := by omega
   clear hq
   by_cases h1 : 13 < x.size
   ·have t1 : decide ((13 : Int) < (x.size : Int)) = true := decide_eq_true (by omega)
    have HNS : Hid (propB (Short13 l) = false) := propB_no (fun h => by have := (h _ HMM.out).1; simp only at this; omega)
    clear h1
    go_wp2_with fail
    go_ret
    exact ⟨by rw [HNS.out]; rfl, rfl⟩
   have t1 : decide ((13 : Int) < (x.size : Int)) = false := decide_eq_false (by omega)
   by_cases h2 : 13 < y.size
   ·have t2 : decide ((13 : Int) < (y.size : Int)) = true := decide_eq_true (by omega)
    have HNS : Hid (propB (Short13 l) = false) := propB_no (fun h => by have := (h _ HMM.out).2; simp only at this; omega)
    clear h1 h2
    go_wp2_with fail
    go_ret
    exact ⟨by rw [HNS.out]; rfl, rfl⟩
   have t2 : decide ((13 : Int) < (y.size : Int)) = false := decide_eq_false (by omega)
   have HXY : Hid (x.size ≤ 13 ∧ y.size ≤ 13) := ⟨by omega, by omega⟩
   clear h1 h2
   go_wp2_with fail
   refine ⟨⟨k + 1, by go_num, by omega, fun q hq => ?_⟩, by simp [intOf]; omega⟩
   rw [HTK.out, List.mem_append, List.mem_singleton] at hq
   rcases hq with hq | rfl
   ·exact HS.out q hq
   ·exact HXY.out
  ·have hcx : decide ((k : Int) < (N : Int)) = false := by simp; omega
   have hcx2 : decide (k < N) = false := decide_eq_false (by omega)
   have HYS : Hid (propB (Short13 l) = true) := propB_iff.2 (fun q hq => HS.out q (by rw [List.take_of_length_le (by rw [HN.out]; exact hge)]; exact hq))
   go_wp2_with fail
   go_ret
   exact ⟨by rw [HYS.out]; rfl, rfl⟩
theorem long11_ex (l : List (ByteArray × ByteArray)) (N b : Nat) (hN : l.length = N) (hm : N ≤ 1000000) (w : World) (hk : w.heap[b]? = some (.cells (fcV l).toArray 25 (0, 0))) :
 Calls Tryz.prog 7 #[.slice (some ⟨b, 0, none⟩) N N] w fun e w' => e = .returned (.bool (!propB (Short13 l))) ∧ w = w' := by
 have HR := hI (rfLong_ex l N b hN hm w hk)
 clear hk
 go_enter Tryz.func7, Tryz.ntmps7
 go_wp2_with fail
 refine HR.out.mono ?_
 rintro e w1 ⟨rfl, rfl⟩
 go_wp2_with fail
 go_ret
 exact ⟨rfl, rfl⟩
theorem run_neq_self (a b : ByteArray) (w : World) : (binOp .neq 25 (.agg #[.string a, .string b]) (.agg #[.string a, .string b])).run Tryz.prog w = .ok (.bool false) w := by
 rw [run_neq_frac]; simp
theorem accQ_bd {i : Inst} (h : BdI i) {d : Int} (hd : okDay d) : BdQ (accQ i d) 59 := by
 rcases atZ_cases (perL i) d with ⟨k, p, hk, hp, _, _⟩ | hn
 ·rw [accQ_some hk hp]
  exact intQ_bd h (h.per (List.mem_of_getElem? hp)).1 hd
 ·rw [accQ_none hn]
  exact BdQ.zero (by omega)
theorem presQ_bd {i : Inst} (h : BdI i) (hc : (perL i).length ≤ 15) {d : Int} (h1 : i.issued ≤ d) (h2 : d ≤ i.matures) {y : Rat} (hb : BdQ y 60) (hy : 0 < 1 + y) : BdQ (if d = i.matures then 0 else presQ i d y) 3000 := by
 by_cases hd : d = i.matures
 ·rw [if_pos hd]; exact BdQ.zero (by omega)
 rw [if_neg hd]
 obtain ⟨k, p, hk, hp, hp1, hp2⟩ := at_life (i := i) h1 (by omega)
 have hkl := (List.getElem?_eq_some_iff.1 hp).1
 have hin := per_in h hp
 have ho := h.per (List.mem_of_getElem? hp)
 obtain ⟨⟨a0, a1⟩, ⟨b0, b1⟩⟩ := ho
 obtain ⟨t0, t1⟩ := left_ok h hp hp1 hp2
 have hg : BdQ (1 + y) 70 := (BdQ.add (BdQ.int (z := 1) (k := 1) (by decide) (by omega)) hb).mono (by omega)
 have hlq : BdQ (Rat.divInt (p.2 - d) (p.2 - p.1)) 6 := BdQ.divInt (by omega) (by omega) (by omega)
 have hbb : BdQ (1 + y * Rat.divInt (p.2 - d) (p.2 - p.1)) 70 := (BdQ.add (BdQ.int (z := 1) (k := 1) (by decide) (by omega)) (BdQ.mul hb hlq)).mono (by omega)
 have hb0 : 1 + y * Rat.divInt (p.2 - d) (p.2 - p.1) ≠ 0 := by have := by_pos hy t0 t1; grind
 have hx := amt_at hkl
 rw [presQ_some hk hp hx]
 refine (BdQ.quo (BdQ.add (pv_bd hg (by grind) ((amtL i).drop (k + 1)) (fun x hx => amt_bd h (List.mem_of_mem_drop hx))) (amt_bd h (List.mem_of_getElem? hx))) hbb hb0).mono ?_
 rw [List.length_drop, amtL_len]
 omega
theorem flows_bd {i : Inst} (h : BdI i) : ∀ x ∈ (flowsL i).map Prod.snd, BdQ x 80 := by
 intro x hx
 obtain ⟨f, hf, rfl⟩ := List.mem_map.1 hx
 exact amt_bd h (flows_mem hf).2.1
abbrev nums3 (i : Inst) : List (ByteArray × ByteArray) := [(i.fn, i.fd), (i.cn, i.cd), (i.sn, i.sd)]
noncomputable def greatB (i : Inst) : Bool := !propB (Short13 (nums3 i)) || decide (40 < i.id.size) || decide (40 < i.cur.size) || decide (40 < i.other.size) || (propB i.ok && decide (i.kind = 2) && decide (372 * i.months < i.matures - i.issued) && decide (i.matures - i.issued < 12462 * i.months))
noncomputable def fineB (i : Inst) : Bool := !greatB i && propB i.ok && decide (i.kind = 2) && decide (i.matures - i.issued ≤ 372 * i.months)
theorem greatB_no {i : Inst} (h : greatB i = false) : i.tiny := by
 unfold greatB at h
 simp at h
 obtain ⟨⟨⟨⟨h1, h2⟩, h3⟩, h4⟩, _⟩ := h
 have hs := propB_iff.1 h1
 have a0 := hs (i.fn, i.fd) (by simp)
 have a1 := hs (i.cn, i.cd) (by simp)
 have a2 := hs (i.sn, i.sd) (by simp)
 exact ⟨by omega, by omega, by omega, a0.1, a0.2, a1.1, a1.2, a2.1, a2.2⟩
theorem fineB_yes {i : Inst} (h : fineB i = true) : Fine11 i := by
 unfold fineB at h
 simp at h
 obtain ⟨⟨⟨h1, h2⟩, h3⟩, h4⟩ := h
 have ht := greatB_no h1
 have hok := propB_iff.1 h2
 have hbd : BdI i := by
  obtain ⟨a1, a2, a3, a4, a5, a6, a7, a8, a9⟩ := ht
  exact ⟨⟨by omega, by omega, by omega, by omega, by omega, by omega, by omega, by omega, by omega⟩, by omega, by omega, by omega, by omega, hok, h3⟩
 exact ⟨ht, hbd, cuts_few hbd.mo.1 hbd.mat.1.1 hbd.mat.1.2 h4⟩
theorem rGreat11_ex (i : Inst) (w : World) : Calls Tryz.prog 37 #[i.enc] w fun e w' => e = .returned (.bool (greatB i)) ∧ Below w.heap.size w w' := by
 obtain ⟨W0, hW0, hB0, hz, hk⟩ := ibox i w
 have c0 := Lib.cell_of_heap (hk) 0
 have c1 := Lib.cell_of_heap (hk) 1
 have c2 := Lib.cell_of_heap (hk) 2
 have c3 := Lib.cell_of_heap (hk) 3
 have c4 := Lib.cell_of_heap (hk) 4
 have c5 := Lib.cell_of_heap (hk) 5
 have c6 := Lib.cell_of_heap (hk) 6
 have c7 := Lib.cell_of_heap (hk) 7
 have c8 := Lib.cell_of_heap (hk) 8
 have c9 := Lib.cell_of_heap (hk) 9
 have c10 := Lib.cell_of_heap (hk) 10
 have c11 := Lib.cell_of_heap (hk) 11
 have c12 := Lib.cell_of_heap (hk) 12
 have c13 := Lib.cell_of_heap (hk) 13
 have c14 := Lib.cell_of_heap (hk) 14
 simp [Inst.cells] at c0 c1 c2 c3 c4 c5 c6 c7 c8 c9 c10 c11 c12 c13 c14
 have HB := hI hB0
 have HK := hI hk
 clear hB0 hz hk
 obtain ⟨x, hx⟩ : ∃ x, IntKind.i64.wrap (i.matures - i.issued) = x := ⟨_, rfl⟩
 have HX := hI hx
 unfold Inst.enc Inst.cells at *
 go_enter Tryz.func37, Tryz.ntmps37
 go_wp2_with fail
 have hRC : RC w i W0.heap.size (W0.alloc (.cells (numCells i) 25)) := ⟨(Below.heap_alloc W0 _ _ (cell_lt c0)).trans HK.out, heap_alloc_new W0 _, HB.out.alloc HB.out.size _⟩
 generalize hW1 : W0.alloc (.cells (numCells i) 25) = W1 at hRC ⊢
 generalize W0.heap.size = b at hRC ⊢
 refine (rfLong_ex (nums3 i) 3 b rfl (by omega) W1 hRC.k1).mono ?_
 rintro e w1 ⟨rfl, rfl⟩
 have HRC := hI hRC
 clear hW1 HB HK hW0 c0 c1 c2 c3 c4 c5 c6 c7 c8 c9 c10 c11 c12 c13 c14
 have c0 := Lib.cell_of_heap (hRC.k0) 0
 have c1 := Lib.cell_of_heap (hRC.k0) 1
 have c2 := Lib.cell_of_heap (hRC.k0) 2
 have c3 := Lib.cell_of_heap (hRC.k0) 3
 have c4 := Lib.cell_of_heap (hRC.k0) 4
 have c5 := Lib.cell_of_heap (hRC.k0) 5
 have c6 := Lib.cell_of_heap (hRC.k0) 6
 have c7 := Lib.cell_of_heap (hRC.k0) 7
 have c8 := Lib.cell_of_heap (hRC.k0) 8
 have c9 := Lib.cell_of_heap (hRC.k0) 9
 have c10 := Lib.cell_of_heap (hRC.k0) 10
 have c11 := Lib.cell_of_heap (hRC.k0) 11
 have c12 := Lib.cell_of_heap (hRC.k0) 12
 have c13 := Lib.cell_of_heap (hRC.k0) 13
 have c14 := Lib.cell_of_heap (hRC.k0) 14
 simp [Inst.cells] at c0 c1 c2 c3 c4 c5 c6 c7 c8 c9 c10 c11 c12 c13 c14
 clear hRC
 by_cases hs : Short13 (nums3 i)
 case neg =>
  have hp : propB (Short13 (nums3 i)) = false := propB_no hs
  rw [hp]
  go_wp2_with fail
  go_ret
  exact ⟨by rw [show greatB i = true from by unfold greatB; rw [hp]; rfl]; rfl, HRC.out.bel⟩
 have hp : propB (Short13 (nums3 i)) = true := propB_iff.2 hs
 have HP := hI hp
 rw [hp]
 clear hp
 by_cases h1 : 40 < i.id.size
 ·have t1 : decide ((40 : Int) < (i.id.size : Int)) = true := decide_eq_true (by omega)
  have H1 := hI h1
  clear h1 hs
  go_wp2_with fail
  go_ret
  exact ⟨by rw [show greatB i = true from by unfold greatB; rw [decide_eq_true H1.out]; simp]; rfl, HRC.out.bel⟩
 have t1 : decide ((40 : Int) < (i.id.size : Int)) = false := decide_eq_false (by omega)
 by_cases h2 : 40 < i.cur.size
 ·have t2 : decide ((40 : Int) < (i.cur.size : Int)) = true := decide_eq_true (by omega)
  have H2 := hI h2
  clear h1 h2 hs
  go_wp2_with fail
  go_ret
  exact ⟨by rw [show greatB i = true from by unfold greatB; rw [decide_eq_true H2.out]; simp]; rfl, HRC.out.bel⟩
 have t2 : decide ((40 : Int) < (i.cur.size : Int)) = false := decide_eq_false (by omega)
 by_cases h3 : 40 < i.other.size
 ·have t3 : decide ((40 : Int) < (i.other.size : Int)) = true := decide_eq_true (by omega)
  have H3 := hI h3
  clear h1 h2 h3 hs
  go_wp2_with fail
  go_ret
  exact ⟨by rw [show greatB i = true from by unfold greatB; rw [decide_eq_true H3.out]; simp]; rfl, HRC.out.bel⟩
 have t3 : decide ((40 : Int) < (i.other.size : Int)) = false := decide_eq_false (by omega)
 have HT : Hid i.tiny := by
  have a0 := hs (i.fn, i.fd) (by simp)
  have a1 := hs (i.cn, i.cd) (by simp)
  have a2 := hs (i.sn, i.sd) (by simp)
  exact ⟨by omega, by omega, by omega, a0.1, a0.2, a1.1, a1.2, a2.1, a2.2⟩
 have HG : Hid (greatB i = (propB i.ok && decide (i.kind = 2) && decide (372 * i.months < i.matures - i.issued) && decide (i.matures - i.issued < 12462 * i.months))) := by
  show greatB i = _
  unfold greatB
  rw [HP.out, decide_eq_false h1, decide_eq_false h2, decide_eq_false h3]
  simp
 clear h1 h2 h3 hs
 go_wp2_with fail
 refine (rCheck10_any i HT.out _).mono ?_
 rintro e w2 ⟨n, rfl, hn, b2⟩
 have HN := hI hn
 have HB2 := hI (HRC.out.bel.trans (b2.mono HRC.out.bel.size))
 have hRC := HRC.out.below b2
 clear hn b2 HRC t1 t2 t3 c0 c1 c2 c3 c4 c5 c6 c7 c8 c9 c10 c11 c12 c13 c14
 have c0 := Lib.cell_of_heap (hRC.k0) 0
 have c1 := Lib.cell_of_heap (hRC.k0) 1
 have c2 := Lib.cell_of_heap (hRC.k0) 2
 have c3 := Lib.cell_of_heap (hRC.k0) 3
 have c4 := Lib.cell_of_heap (hRC.k0) 4
 have c5 := Lib.cell_of_heap (hRC.k0) 5
 have c6 := Lib.cell_of_heap (hRC.k0) 6
 have c7 := Lib.cell_of_heap (hRC.k0) 7
 have c8 := Lib.cell_of_heap (hRC.k0) 8
 have c9 := Lib.cell_of_heap (hRC.k0) 9
 have c10 := Lib.cell_of_heap (hRC.k0) 10
 have c11 := Lib.cell_of_heap (hRC.k0) 11
 have c12 := Lib.cell_of_heap (hRC.k0) 12
 have c13 := Lib.cell_of_heap (hRC.k0) 13
 have c14 := Lib.cell_of_heap (hRC.k0) 14
 simp [Inst.cells] at c0 c1 c2 c3 c4 c5 c6 c7 c8 c9 c10 c11 c12 c13 c14
 clear hRC
 by_cases h0 : n = 0
 case neg =>
  have t0 : (n == 0) = false := beq_eq_false_iff_ne.2 h0
  have hno : propB i.ok = false := propB_no (fun h => h0 (HN.out.2 h))
  have HNO := hI hno
  clear h0 hno
  go_wp2_with fail
  go_ret
  exact ⟨by rw [HG.out, HNO.out]; rfl, HB2.out⟩
 have hok := HN.out.1 h0
 have hyes : propB i.ok = true := propB_iff.2 hok
 have HYES := hI hyes
 have HOK := hI hok
 subst h0
 clear hok hyes
 by_cases hk : i.kind = 2
 case neg =>
  have t0 : (i.kind == 2) = false := beq_eq_false_iff_ne.2 hk
  have HK2 := hI hk
  clear hk
  go_wp2_with fail
  go_ret
  exact ⟨by rw [HG.out, decide_eq_false HK2.out]; simp, HB2.out⟩
 have t0 : (i.kind == 2) = true := beq_iff_eq.2 hk
 have hbd : BdI i := by
  obtain ⟨a1, a2, a3, a4, a5, a6, a7, a8, a9⟩ := HT.out
  exact ⟨⟨by omega, by omega, by omega, by omega, by omega, by omega, by omega, by omega, by omega⟩, by omega, by omega, by omega, by omega, HOK.out, hk⟩
 obtain ⟨⟨m0, m1⟩, m2⟩ := hbd.mat
 obtain ⟨o0, o1⟩ := hbd.mo
 obtain ⟨i0, i1⟩ := hbd.ok.issued
 have hxx : x = i.matures - i.issued := by rw [← HX.out, IntKind.wrap_i64]; omega
 have hw2 : IntKind.i64.wrap (372 * i.months) = 372 * i.months := by rw [IntKind.wrap_i64]; omega
 have hw3 : IntKind.i64.wrap (12462 * i.months) = 12462 * i.months := by rw [IntKind.wrap_i64]; omega
 have HGG : Hid (greatB i = (decide (372 * i.months < x) && decide (x < 12462 * i.months))) := by
  show greatB i = _
  rw [HG.out, HYES.out, decide_eq_true hk, hxx]
  simp
 clear hbd m0 m1 m2 o0 o1 i0 i1 hk hxx
 cases hc1 : decide (372 * i.months < x)
 ·rw [hc1] at HGG
  go_wp2_with fail
  go_ret
  exact ⟨by rw [HGG.out]; rfl, HB2.out⟩
 ·cases hc2 : decide (x < 12462 * i.months)
  all_goals
   rw [hc1, hc2] at HGG
   go_wp2_with fail
   go_ret
   exact ⟨by rw [HGG.out]; rfl, HB2.out⟩
theorem fine11_ex (i : Inst) (w : World) : Calls Tryz.prog 6 #[i.enc] w fun e w' => e = .returned (.bool (fineB i)) ∧ Below w.heap.size w w' := by
 obtain ⟨W0, hW0, hB0, hz, hk⟩ := ibox i w
 have HK := hI hk
 have c0 := Lib.cell_of_heap (hk) 0
 have c1 := Lib.cell_of_heap (hk) 1
 have c2 := Lib.cell_of_heap (hk) 2
 have c3 := Lib.cell_of_heap (hk) 3
 have c4 := Lib.cell_of_heap (hk) 4
 have c5 := Lib.cell_of_heap (hk) 5
 have c6 := Lib.cell_of_heap (hk) 6
 have c7 := Lib.cell_of_heap (hk) 7
 have c8 := Lib.cell_of_heap (hk) 8
 have c9 := Lib.cell_of_heap (hk) 9
 have c10 := Lib.cell_of_heap (hk) 10
 have c11 := Lib.cell_of_heap (hk) 11
 have c12 := Lib.cell_of_heap (hk) 12
 have c13 := Lib.cell_of_heap (hk) 13
 have c14 := Lib.cell_of_heap (hk) 14
 simp [Inst.cells] at c0 c1 c2 c3 c4 c5 c6 c7 c8 c9 c10 c11 c12 c13 c14
 have HB := hI hB0
 clear hB0 hz hk
 unfold Inst.enc Inst.cells at *
 go_enter Tryz.func6, Tryz.ntmps6
 go_wp2_with fail
 refine (rGreat11_ex i _).mono ?_
 rintro e w1 ⟨rfl, b1⟩
 have HB1 := hI (HB.out.trans (b1.mono HB.out.size))
 have hk := (b1.block _ (Array.getElem?_eq_some_iff.1 HK.out).1).trans HK.out
 clear b1 HB hW0 c0 c1 c2 c3 c4 c5 c6 c7 c8 c9 c10 c11 c12 c13 c14
 have c0 := Lib.cell_of_heap (hk) 0
 have c1 := Lib.cell_of_heap (hk) 1
 have c2 := Lib.cell_of_heap (hk) 2
 have c3 := Lib.cell_of_heap (hk) 3
 have c4 := Lib.cell_of_heap (hk) 4
 have c5 := Lib.cell_of_heap (hk) 5
 have c6 := Lib.cell_of_heap (hk) 6
 have c7 := Lib.cell_of_heap (hk) 7
 have c8 := Lib.cell_of_heap (hk) 8
 have c9 := Lib.cell_of_heap (hk) 9
 have c10 := Lib.cell_of_heap (hk) 10
 have c11 := Lib.cell_of_heap (hk) 11
 have c12 := Lib.cell_of_heap (hk) 12
 have c13 := Lib.cell_of_heap (hk) 13
 have c14 := Lib.cell_of_heap (hk) 14
 simp [Inst.cells] at c0 c1 c2 c3 c4 c5 c6 c7 c8 c9 c10 c11 c12 c13 c14
 have HK1 := hI hk
 clear hk HK
 cases hg : greatB i
 case true =>
  have HF : Hid (fineB i = false) := by show _ = _; unfold fineB; rw [hg]; rfl
  clear hg
  go_wp2_with fail
  go_ret
  exact ⟨by rw [HF.out]; rfl, HB1.out⟩
 have HTI := hI (greatB_no hg)
 have HF : Hid (fineB i = (propB i.ok && decide (i.kind = 2) && decide (i.matures - i.issued ≤ 372 * i.months))) := by
  show _ = _
  unfold fineB
  rw [hg]
  simp
 clear hg
 go_wp2_with fail
 refine (rCheck10_any i HTI.out _).mono ?_
 rintro e w2 ⟨n, rfl, hn, b2⟩
 have HN := hI hn
 have HB2 := hI (HB1.out.trans (b2.mono HB1.out.size))
 have hk := (b2.block _ (Array.getElem?_eq_some_iff.1 HK1.out).1).trans HK1.out
 clear hn b2 HB1 HK1 c0 c1 c2 c3 c4 c5 c6 c7 c8 c9 c10 c11 c12 c13 c14
 have c0 := Lib.cell_of_heap (hk) 0
 have c1 := Lib.cell_of_heap (hk) 1
 have c2 := Lib.cell_of_heap (hk) 2
 have c3 := Lib.cell_of_heap (hk) 3
 have c4 := Lib.cell_of_heap (hk) 4
 have c5 := Lib.cell_of_heap (hk) 5
 have c6 := Lib.cell_of_heap (hk) 6
 have c7 := Lib.cell_of_heap (hk) 7
 have c8 := Lib.cell_of_heap (hk) 8
 have c9 := Lib.cell_of_heap (hk) 9
 have c10 := Lib.cell_of_heap (hk) 10
 have c11 := Lib.cell_of_heap (hk) 11
 have c12 := Lib.cell_of_heap (hk) 12
 have c13 := Lib.cell_of_heap (hk) 13
 have c14 := Lib.cell_of_heap (hk) 14
 simp [Inst.cells] at c0 c1 c2 c3 c4 c5 c6 c7 c8 c9 c10 c11 c12 c13 c14
 clear hk
 by_cases h0 : n = 0
 case neg =>
  have t0 : (n == 0) = false := beq_eq_false_iff_ne.2 h0
  have HNO : Hid (propB i.ok = false) := propB_no (fun h => h0 (HN.out.2 h))
  clear h0
  go_wp2_with fail
  go_ret
  exact ⟨by rw [HF.out, HNO.out]; rfl, HB2.out⟩
 have HO := hI (HN.out.1 h0)
 have HYES : Hid (propB i.ok = true) := propB_iff.2 HO.out
 subst h0
 by_cases hk : i.kind = 2
 case neg =>
  have t0 : (i.kind == 2) = false := beq_eq_false_iff_ne.2 hk
  have HK2 := hI hk
  clear hk
  go_wp2_with fail
  go_ret
  exact ⟨by rw [HF.out, decide_eq_false HK2.out]; simp, HB2.out⟩
 have t0 : (i.kind == 2) = true := beq_iff_eq.2 hk
 have hbd : BdI i := by
  obtain ⟨a1, a2, a3, a4, a5, a6, a7, a8, a9⟩ := HTI.out
  exact ⟨⟨by omega, by omega, by omega, by omega, by omega, by omega, by omega, by omega, by omega⟩, by omega, by omega, by omega, by omega, HO.out, hk⟩
 obtain ⟨⟨m0, m1⟩, m2⟩ := hbd.mat
 obtain ⟨o0, o1⟩ := hbd.mo
 obtain ⟨i0, i1⟩ := hbd.ok.issued
 have hw1 : IntKind.i64.wrap (i.matures - i.issued) = i.matures - i.issued := by rw [IntKind.wrap_i64]; omega
 have hw2 : IntKind.i64.wrap (372 * i.months) = 372 * i.months := by rw [IntKind.wrap_i64]; omega
 have HFF : Hid (fineB i = decide (i.matures - i.issued ≤ 372 * i.months)) := by
  show _ = _
  rw [HF.out, HYES.out, decide_eq_true hk]
  simp
 clear hbd m0 m1 m2 o0 o1 i0 i1 hk
 cases hc : decide (i.matures - i.issued ≤ 372 * i.months)
 all_goals
  rw [hc] at HFF
  go_wp2_with fail
  go_ret
  exact ⟨by rw [HFF.out]; rfl, HB2.out⟩
end Go.Proofs.YtcnmoobojdopgaaGreatDoor
