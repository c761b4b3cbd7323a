/-
  The walk of tranchelaw11.BondAccrued. (Printed by gen_law30.py.)
-/
import Derived.Test.YtnnjgpgccifknaaGreatDoorB36
set_option linter.unusedVariables false
set_option linter.unusedSimpArgs false
set_option maxHeartbeats 16000000
set_option maxRecDepth 100000
namespace Go.Proofs.YtnnjgpgccifknaaGreatDoor
open Go.RowKit Tr Go.Shelf
theorem num_nn {q : Rat} (h : 0 ≤ q) : 0 ≤ cmpI q.num 0 := by
 have := (cmpz q).2.2
 refine Int.not_lt.1 fun k => ?_
 exact absurd (this.1 k) (Rat.not_lt.2 h)
theorem cmp_le {p q : Rat} (h : p ≤ q) : cmpI (p - q).num 0 ≤ 0 := by
 have := (cmpz (p - q)).2.1
 refine Int.not_lt.1 fun k => ?_
 have h1 := this.1 k
 exact absurd h (Rat.not_le.2 (by grind))
theorem accQ_bd {i : Inst} (h : BdI i) {d : Int} (hd : okDay d) : BdQ (accQ i d) 59 := by
 rcases atZ_cases (perL i) d with ⟨k, p, hk, hp, _, _⟩ | hn
 ·rw [accQ_some hk hp]
  exact intQ_bd h (h.per (List.mem_of_getElem? hp)).1 hd
 ·rw [accQ_none hn]
  exact BdQ.zero (by omega)
theorem coupQ_bd {i : Inst} (h : BdI i) {k : Nat} (hk : k < (perL i).length) : BdQ (coupQ i k) 59 := by
 obtain ⟨p, hp⟩ : ∃ p, (perL i)[k]? = some p := ⟨_, List.getElem?_eq_getElem hk⟩
 have ho := h.per (List.mem_of_getElem? hp)
 rw [coupQ_eq hp]
 exact intQ_bd h ho.1 ho.2
theorem acc_law {i : Inst} (h : BdI i) {k : Nat} {px py : Int} (hp : (perL i)[k]? = some (px, py)) {lo hi : Int} (h0 : 0 ≤ lo) (h1 : lo ≤ hi) (h2 : hi < py - px) :
 accQ i px = 0 ∧ accQ i (px + lo) ≤ accQ i (px + hi) ∧ accQ i (px + hi) ≤ coupQ i k ∧ 0 ≤ accQ i (px + lo) := by
 have ho := h.per (List.mem_of_getElem? hp)
 simp only at ho
 obtain ⟨⟨a0, a1⟩, ⟨b0, b1⟩⟩ := ho
 have hd : ∀ x, 0 ≤ x → x ≤ hi → okDay (px + x) := fun x x0 x1 => ⟨by omega, by omega⟩
 have e0 := acc_per h hp (d := px) (Int.le_refl _) (by show px < py; omega)
 have e1 := acc_per h hp (d := px + lo) (by show px ≤ px + lo; omega) (by show px + lo < py; omega)
 have e2 := acc_per h hp (d := px + hi) (by show px ≤ px + hi; omega) (by show px + hi < py; omega)
 rw [e0, e1, e2, coupQ_eq hp]
 exact ⟨intQ_self i ⟨a0, a1⟩, intQ_mono h ⟨a0, a1⟩ (hd lo h0 h1) (by omega) (hd hi (by omega) (Int.le_refl _)), intQ_mono h ⟨a0, a1⟩ (hd hi (by omega) (Int.le_refl _)) (by show px + hi ≤ py; omega) ⟨b0, b1⟩, intQ_nn h ⟨a0, a1⟩ (hd lo h0 h1) (by show px ≤ px + lo; omega)⟩
theorem BondAccrued_any (i : Inst) (n a b : Int) (n0 : 0 ≤ n) (n1 : n ≤ 255) (a0 : 0 ≤ a) (a1 : a ≤ 65535) (b0 : 0 ≤ b) (b1 : b ≤ 65535) (w : World) (ht : Tabs w) :
 Calls Tryz.prog 5 #[i.enc, .int .u8 n, .int .u16 a, .int .u16 b] w fun e w' => e = .returned (.bool true) ∧ Below w.heap.size w w' := by
 have HT := hI ht
 obtain ⟨W0, hW0, hB0, hz, hk⟩ := ibox i w
 have HG0 : Hid (BX w [(w.heap.size, .cells i.cells 27 (0, 0))] W0) := ⟨hB0, fun x hx => by
  rcases List.mem_cons.1 hx with rfl | hx
  ·exact hk
  ·cases hx⟩
 have c0 := Lib.cell_of_heap (hk) 0
 have c1 := Lib.cell_of_heap (hk) 1
 have c2 := Lib.cell_of_heap (hk) 2
 have c3 := Lib.cell_of_heap (hk) 3
 have c4 := Lib.cell_of_heap (hk) 4
 have c5 := Lib.cell_of_heap (hk) 5
 have c6 := Lib.cell_of_heap (hk) 6
 have c7 := Lib.cell_of_heap (hk) 7
 have c8 := Lib.cell_of_heap (hk) 8
 have c9 := Lib.cell_of_heap (hk) 9
 have c10 := Lib.cell_of_heap (hk) 10
 have c11 := Lib.cell_of_heap (hk) 11
 have c12 := Lib.cell_of_heap (hk) 12
 have c13 := Lib.cell_of_heap (hk) 13
 have c14 := Lib.cell_of_heap (hk) 14
 simp [Inst.cells] at c0 c1 c2 c3 c4 c5 c6 c7 c8 c9 c10 c11 c12 c13 c14
 clear hB0 hz hk ht
 unfold Inst.enc Inst.cells at *
 go_enter Tryz.func5, Tryz.ntmps5
 go_wp2_with fail
 refine (fine11_any i _).mono ?_
 rintro e w1 ⟨g, rfl, hg, x1⟩
 have HG1 := hI (HG0.out.below x1)
 clear x1 HG0 hW0 c0 c1 c2 c3 c4 c5 c6 c7 c8 c9 c10 c11 c12 c13 c14
 cases g
 case false =>
  clear hg
  go_wp2_with fail
  refine (awake11_any _ (HT.out.below HG1.out.1)).mono ?_
  rintro e w2 ⟨rfl, x2⟩
  have HB2 := hI (HG1.out.below x2).1
  clear x2
  go_wp2_with fail
  go_ret
  exact ⟨rfl, HB2.out⟩
 obtain ⟨htiny, hbd, hcut⟩ := hg rfl
 clear hg
 have HH := hI hbd
 have HFEW : Hid (Few i) := by show (cuts i.issued i.matures i.months).length ≤ 399; omega
 obtain ⟨N, hN⟩ : ∃ N, (perL i).length = N := ⟨_, rfl⟩
 have hN0 : 0 < N := by have := per_pos i; omega
 have hN15 : N ≤ 15 := by
  have := pers_len i.issued i.matures i.months
  have h1 : (pers i.issued i.matures i.months).length = N := hN
  omega
 have HN := hI hN
 have HPER := hI (fun W (hW : Tabs W) => bPer_few hbd HFEW.out W hW)
 rw [hN] at HPER
 have c0 := Lib.cell_of_heap (HG1.out.get 0 rfl) 0
 have c1 := Lib.cell_of_heap (HG1.out.get 0 rfl) 1
 have c2 := Lib.cell_of_heap (HG1.out.get 0 rfl) 2
 have c3 := Lib.cell_of_heap (HG1.out.get 0 rfl) 3
 have c4 := Lib.cell_of_heap (HG1.out.get 0 rfl) 4
 have c5 := Lib.cell_of_heap (HG1.out.get 0 rfl) 5
 have c6 := Lib.cell_of_heap (HG1.out.get 0 rfl) 6
 have c7 := Lib.cell_of_heap (HG1.out.get 0 rfl) 7
 have c8 := Lib.cell_of_heap (HG1.out.get 0 rfl) 8
 have c9 := Lib.cell_of_heap (HG1.out.get 0 rfl) 9
 have c10 := Lib.cell_of_heap (HG1.out.get 0 rfl) 10
 have c11 := Lib.cell_of_heap (HG1.out.get 0 rfl) 11
 have c12 := Lib.cell_of_heap (HG1.out.get 0 rfl) 12
 have c13 := Lib.cell_of_heap (HG1.out.get 0 rfl) 13
 have c14 := Lib.cell_of_heap (HG1.out.get 0 rfl) 14
 simp [Inst.cells] at c0 c1 c2 c3 c4 c5 c6 c7 c8 c9 c10 c11 c12 c13 c14
 clear htiny hbd hcut hN
 go_wp2_with fail
 refine (HPER.out _ (HT.out.below HG1.out.1)).mono ?_
 rintro e w2 ⟨⟨ad, cap, cur, rfl, hnc, hab, hob, hrd⟩, x2⟩
 have HG2 : Hid (BX w [(ad.block, .cells cur 50 (0, 0)), (w.heap.size, .cells i.cells 27 (0, 0))] w2) := ⟨(HG1.out.below x2).1, fun x hx => by
  rcases List.mem_cons.1 hx with rfl | hx
  ·exact hob
  ·exact (HG1.out.below x2).2 x hx⟩
 have HRD := hI hrd
 obtain ⟨k, hk, hkN⟩ : ∃ k : Nat, Int.tmod n (N : Int) = (k : Int) ∧ k < N := by
  have h1 := Int.tmod_lt_of_pos n (b := (N : Int)) (by omega)
  have h2 := Int.tmod_nonneg (N : Int) n0
  exact ⟨(Int.tmod n N).toNat, by omega, by omega⟩
 obtain ⟨⟨px, py⟩, hp⟩ : ∃ p, (perL i)[k]? = some p := ⟨_, List.getElem?_eq_getElem (by rw [HN.out]; exact hkN)⟩
 have HPK := hI hp
 have hki : (k : Int) < (N : Int) := by omega
 obtain ⟨q0, q1⟩ := (hrd _ (HG2.out.get 0 rfl)).2 k (px, py) hp
 simp only at q0 q1
 have tN : ((N : Int) == 0) = false := beq_eq_false_iff_ne.2 (by omega)
 have tN' : (N == 0) = false := beq_eq_false_iff_ne.2 (by omega)
 have hlt := per_lt HH.out hp
 simp only at hlt
 have hin := per_in HH.out hp
 simp only at hin
 obtain ⟨hi0, hi1, hi2, hi3⟩ := hin
 have hox := HH.out.per (List.mem_of_getElem? hp)
 simp only at hox
 obtain ⟨⟨ox0, ox1⟩, ⟨oy0, oy1⟩⟩ := hox
 have tp : decide (py ≤ px) = false := decide_eq_false (by omega)
 obtain ⟨W3, hW3⟩ : ∃ W3, w2.alloc (.cells #[.int .i64 px, .int .i64 py] 50) = W3 := ⟨_, rfl⟩
 have HG3 : Hid (BX w ((w2.heap.size, .cells #[.int .i64 px, .int .i64 py] 50 (0, 0)) :: [(ad.block, .cells cur 50 (0, 0)), (w.heap.size, .cells i.cells 27 (0, 0))]) W3) := by show BX _ _ _; rw [← hW3]; exact HG2.out.push _
 have p0 := Lib.cell_of_heap (HG3.out.get 0 rfl) 0
 have p1 := Lib.cell_of_heap (HG3.out.get 0 rfl) 1
 simp at p0 p1
 obtain ⟨ds, hds⟩ : ∃ ds, py - px = ds := ⟨_, rfl⟩
 have hw1 : IntKind.i64.wrap (py - px) = ds := by rw [IntKind.wrap_i64]; omega
 have hd0 : ds ≠ 0 := by omega
 have tz : (ds == 0) = false := beq_eq_false_iff_ne.2 hd0
 obtain ⟨fa, hfa⟩ : ∃ x, Int.tmod a ds = x := ⟨_, rfl⟩
 obtain ⟨fb, hfb⟩ : ∃ x, Int.tmod b ds = x := ⟨_, rfl⟩
 have hfa0 : 0 ≤ fa ∧ fa < ds := by
  have h1 := Int.tmod_lt_of_pos a (b := ds) (by omega)
  have h2 := Int.tmod_nonneg ds a0
  omega
 have hfb0 : 0 ≤ fb ∧ fb < ds := by
  have h1 := Int.tmod_lt_of_pos b (b := ds) (by omega)
  have h2 := Int.tmod_nonneg ds b0
  omega
 obtain ⟨lo, hi, hlh, hlo, hle, hhi⟩ : ∃ lo hi, ((decide (fb < fa) = true ∧ lo = fb ∧ hi = fa) ∨ (decide (fb < fa) = false ∧ lo = fa ∧ hi = fb)) ∧ 0 ≤ lo ∧ lo ≤ hi ∧ hi < ds := by
  by_cases h : fb < fa
  ·exact ⟨fb, fa, .inl ⟨decide_eq_true h, rfl, rfl⟩, by omega, by omega, by omega⟩
  ·exact ⟨fa, fb, .inr ⟨decide_eq_false h, rfl, rfl⟩, by omega, by omega, by omega⟩
 have HLAW := hI (acc_law HH.out hp hlo hle (by omega))
 have HLH := hI hlh
 have HDX : Hid (i.issued ≤ px + lo ∧ px + lo ≤ i.matures ∧ i.issued ≤ px + hi ∧ px + hi ≤ i.matures ∧ okDay px ∧ okDay (px + lo) ∧ okDay (px + hi) ∧ okDay i.matures ∧ i.issued ≤ px ∧ px ≤ i.matures ∧ i.issued ≤ i.matures ∧ k < (perL i).length) := ⟨by omega, by omega, by omega, by omega, ⟨ox0, ox1⟩, ⟨by omega, by omega⟩, ⟨by omega, by omega⟩, HH.out.mat.1, by omega, by omega, by omega, by rw [HN.out]; exact hkN⟩
 have hwl : IntKind.i64.wrap (px + lo) = px + lo := by rw [IntKind.wrap_i64]; omega
 have hwh : IntKind.i64.wrap (px + hi) = px + hi := by rw [IntKind.wrap_i64]; omega
 have HWLH := hI (And.intro hwl hwh)
 clear hp hrd hob x2 hab hnc HPER HPK hds hfa0 hfb0 hlh hlo hle hhi hlt hi0 hi1 hi2 hi3 ox0 ox1 oy0 oy1 hwl hwh c0 c1 c2 c3 c4 c5 c6 c7 c8 c9 c10 c11 c12 c13 c14
 go_wp2_with fail
 go_quiet (fail)
 have HG4 := hI (HG3.out.below (below_drewN (Below.refl _ _) nq))
 go_upto_if 71 with fail
 go_cut [14, 15] (fun v14 v15 wx => v14 = .int .i64 lo ∧ v15 = .int .i64 hi ∧ BX w ((w2.heap.size, .cells #[.int .i64 px, .int .i64 py] 50 (0, 0)) :: [(ad.block, .cells cur 50 (0, 0)), (w.heap.size, .cells i.cells 27 (0, 0))]) wx)
 case first =>
  rcases HLH.out with ⟨t, rfl, rfl⟩ | ⟨t, rfl, rfl⟩
  all_goals (rw [t]; go_wp2_with fail; go_meet; exact ⟨rfl, rfl, HG4.out⟩)
 case rest =>
  obtain ⟨rfl, rfl, hg5⟩ := hcut
  have HG5 := hI hg5
  clear hg5 HG4 HG3 hW3 p0 p1 q0 q1 HLH
  obtain ⟨bp, hbp⟩ : ∃ bp, w2.heap.size = bp := ⟨_, rfl⟩
  rw [hbp] at HG5
  simp only [hbp]
  clear hbp HG2
  have he := acc_end HH.out
  obtain ⟨q0, hq0⟩ : ∃ q, accQ i px = q := ⟨_, rfl⟩
  obtain ⟨qx, hqx⟩ : ∃ q, accQ i (px + lo) = q := ⟨_, rfl⟩
  obtain ⟨qy, hqy⟩ : ∃ q, accQ i (px + hi) = q := ⟨_, rfl⟩
  obtain ⟨qc, hqc⟩ : ∃ q, coupQ i k = q := ⟨_, rfl⟩
  obtain ⟨qe, hqe⟩ : ∃ q, accQ i i.matures = q := ⟨_, rfl⟩
  have HBD : Hid (BdQ q0 59 ∧ BdQ qx 59 ∧ BdQ qy 59 ∧ BdQ qc 59 ∧ BdQ qe 59) := by
   rw [Hid, ← hq0, ← hqx, ← hqy, ← hqc, ← hqe]
   exact ⟨accQ_bd HH.out HDX.out.2.2.2.2.1, accQ_bd HH.out HDX.out.2.2.2.2.2.1, accQ_bd HH.out HDX.out.2.2.2.2.2.2.1, coupQ_bd HH.out HDX.out.2.2.2.2.2.2.2.2.2.2.2, accQ_bd HH.out HDX.out.2.2.2.2.2.2.2.1⟩
  have HLW : Hid (q0 = 0 ∧ qx ≤ qy ∧ qy ≤ qc ∧ 0 ≤ qx ∧ qe = 0) := by
   rw [Hid, ← hq0, ← hqx, ← hqy, ← hqc, ← hqe]
   exact ⟨HLAW.out.1, HLAW.out.2.1, HLAW.out.2.2.1, HLAW.out.2.2.2, he⟩
  have HQ0 : Hid (∀ W, Tabs W → Calls Tryz.prog 15 #[i.enc, .int .i64 (px)] W fun e w' => e = .returned (.tuple #[.agg #[.string (I q0.num), .string (dn q0)], .int .i64 0]) ∧ Below W.heap.size W w') := fun W hW => by
   have h := bAcc_few HH.out HFEW.out HDX.out.2.2.2.2.2.2.2.2.1 HDX.out.2.2.2.2.2.2.2.2.2.1 W hW
   rw [hq0] at h; exact h
  have HQX : Hid (∀ W, Tabs W → Calls Tryz.prog 15 #[i.enc, .int .i64 ((px + lo))] W fun e w' => e = .returned (.tuple #[.agg #[.string (I qx.num), .string (dn qx)], .int .i64 0]) ∧ Below W.heap.size W w') := fun W hW => by
   have h := bAcc_few HH.out HFEW.out HDX.out.1 HDX.out.2.1 W hW
   rw [hqx] at h; exact h
  have HQY : Hid (∀ W, Tabs W → Calls Tryz.prog 15 #[i.enc, .int .i64 ((px + hi))] W fun e w' => e = .returned (.tuple #[.agg #[.string (I qy.num), .string (dn qy)], .int .i64 0]) ∧ Below W.heap.size W w') := fun W hW => by
   have h := bAcc_few HH.out HFEW.out HDX.out.2.2.1 HDX.out.2.2.2.1 W hW
   rw [hqy] at h; exact h
  have HQC : Hid (∀ W, Tabs W → Calls Tryz.prog 29 #[i.enc, .int .i64 (k : Int)] W fun e w' => e = .returned (.tuple #[.agg #[.string (I qc.num), .string (dn qc)], .int .i64 0]) ∧ Below W.heap.size W w') := fun W hW => by
   have h := bCoup_few HH.out HFEW.out HDX.out.2.2.2.2.2.2.2.2.2.2.2 W hW
   rw [hqc] at h; exact h
  have HQE : Hid (∀ W, Tabs W → Calls Tryz.prog 15 #[i.enc, .int .i64 (i.matures)] W fun e w' => e = .returned (.tuple #[.agg #[.string (I qe.num), .string (dn qe)], .int .i64 0]) ∧ Below W.heap.size W w') := fun W hW => by
   have h := bAcc_few HH.out HFEW.out HDX.out.2.2.2.2.2.2.2.2.2.2.1 (Int.le_refl _) W hW
   rw [hqe] at h; exact h
  unfold Inst.enc Inst.cells at HQ0 HQX HQY HQC HQE
  clear HLAW he hq0 hqx hqy hqc hqe HDX
  have c0 := Lib.cell_of_heap (HG5.out.get 2 rfl) 0
  have c1 := Lib.cell_of_heap (HG5.out.get 2 rfl) 1
  have c2 := Lib.cell_of_heap (HG5.out.get 2 rfl) 2
  have c3 := Lib.cell_of_heap (HG5.out.get 2 rfl) 3
  have c4 := Lib.cell_of_heap (HG5.out.get 2 rfl) 4
  have c5 := Lib.cell_of_heap (HG5.out.get 2 rfl) 5
  have c6 := Lib.cell_of_heap (HG5.out.get 2 rfl) 6
  have c7 := Lib.cell_of_heap (HG5.out.get 2 rfl) 7
  have c8 := Lib.cell_of_heap (HG5.out.get 2 rfl) 8
  have c9 := Lib.cell_of_heap (HG5.out.get 2 rfl) 9
  have c10 := Lib.cell_of_heap (HG5.out.get 2 rfl) 10
  have c11 := Lib.cell_of_heap (HG5.out.get 2 rfl) 11
  have c12 := Lib.cell_of_heap (HG5.out.get 2 rfl) 12
  have c13 := Lib.cell_of_heap (HG5.out.get 2 rfl) 13
  have c14 := Lib.cell_of_heap (HG5.out.get 2 rfl) 14
  simp [Inst.cells] at c0 c1 c2 c3 c4 c5 c6 c7 c8 c9 c10 c11 c12 c13 c14
  have p0 := Lib.cell_of_heap (HG5.out.get 0 rfl) 0
  have p1 := Lib.cell_of_heap (HG5.out.get 0 rfl) 1
  simp at p0 p1
  go_wp2_with fail
  refine (HQ0.out _ (HT.out.below HG5.out.1)).mono ?_
  rintro e wb0 ⟨rfl, xb⟩
  have HGA0 := hI (HG5.out.below xb)
  clear xb p0 p1 c0 c1 c2 c3 c4 c5 c6 c7 c8 c9 c10 c11 c12 c13 c14
  obtain ⟨WB0, hWB0⟩ : ∃ W, wb0.alloc (.cells #[.string (I q0.num), .string (dn q0)] 25) = W := ⟨_, rfl⟩
  have HGB0 : Hid (BX w [(wb0.heap.size, fobj q0), (bp, .cells #[.int .i64 px, .int .i64 py] 50 (0, 0)), (ad.block, .cells cur 50 (0, 0)), (w.heap.size, .cells i.cells 27 (0, 0))] WB0) := by show BX _ _ _; rw [← hWB0]; exact HGA0.out.push _
  clear HG5 HGA0
  have c0 := Lib.cell_of_heap (HGB0.out.get 3 rfl) 0
  have c1 := Lib.cell_of_heap (HGB0.out.get 3 rfl) 1
  have c2 := Lib.cell_of_heap (HGB0.out.get 3 rfl) 2
  have c3 := Lib.cell_of_heap (HGB0.out.get 3 rfl) 3
  have c4 := Lib.cell_of_heap (HGB0.out.get 3 rfl) 4
  have c5 := Lib.cell_of_heap (HGB0.out.get 3 rfl) 5
  have c6 := Lib.cell_of_heap (HGB0.out.get 3 rfl) 6
  have c7 := Lib.cell_of_heap (HGB0.out.get 3 rfl) 7
  have c8 := Lib.cell_of_heap (HGB0.out.get 3 rfl) 8
  have c9 := Lib.cell_of_heap (HGB0.out.get 3 rfl) 9
  have c10 := Lib.cell_of_heap (HGB0.out.get 3 rfl) 10
  have c11 := Lib.cell_of_heap (HGB0.out.get 3 rfl) 11
  have c12 := Lib.cell_of_heap (HGB0.out.get 3 rfl) 12
  have c13 := Lib.cell_of_heap (HGB0.out.get 3 rfl) 13
  have c14 := Lib.cell_of_heap (HGB0.out.get 3 rfl) 14
  simp [Inst.cells] at c0 c1 c2 c3 c4 c5 c6 c7 c8 c9 c10 c11 c12 c13 c14
  have p0 := Lib.cell_of_heap (HGB0.out.get 1 rfl) 0
  have p1 := Lib.cell_of_heap (HGB0.out.get 1 rfl) 1
  simp at p0 p1
  have hwr := HWLH.out.1
  go_wp2_with fail
  refine (HQX.out _ (HT.out.below HGB0.out.1)).mono ?_
  rintro e wb1 ⟨rfl, xb⟩
  have HGA1 := hI (HGB0.out.below xb)
  clear xb p0 p1 hwr c0 c1 c2 c3 c4 c5 c6 c7 c8 c9 c10 c11 c12 c13 c14
  clear hWB0
  obtain ⟨WB1, hWB1⟩ : ∃ W, wb1.alloc (.cells #[.string (I qx.num), .string (dn qx)] 25) = W := ⟨_, rfl⟩
  have HGB1 : Hid (BX w [(wb1.heap.size, fobj qx), (wb0.heap.size, fobj q0), (bp, .cells #[.int .i64 px, .int .i64 py] 50 (0, 0)), (ad.block, .cells cur 50 (0, 0)), (w.heap.size, .cells i.cells 27 (0, 0))] WB1) := by show BX _ _ _; rw [← hWB1]; exact HGA1.out.push _
  clear HGB0 HGA1
  have c0 := Lib.cell_of_heap (HGB1.out.get 4 rfl) 0
  have c1 := Lib.cell_of_heap (HGB1.out.get 4 rfl) 1
  have c2 := Lib.cell_of_heap (HGB1.out.get 4 rfl) 2
  have c3 := Lib.cell_of_heap (HGB1.out.get 4 rfl) 3
  have c4 := Lib.cell_of_heap (HGB1.out.get 4 rfl) 4
  have c5 := Lib.cell_of_heap (HGB1.out.get 4 rfl) 5
  have c6 := Lib.cell_of_heap (HGB1.out.get 4 rfl) 6
  have c7 := Lib.cell_of_heap (HGB1.out.get 4 rfl) 7
  have c8 := Lib.cell_of_heap (HGB1.out.get 4 rfl) 8
  have c9 := Lib.cell_of_heap (HGB1.out.get 4 rfl) 9
  have c10 := Lib.cell_of_heap (HGB1.out.get 4 rfl) 10
  have c11 := Lib.cell_of_heap (HGB1.out.get 4 rfl) 11
  have c12 := Lib.cell_of_heap (HGB1.out.get 4 rfl) 12
  have c13 := Lib.cell_of_heap (HGB1.out.get 4 rfl) 13
  have c14 := Lib.cell_of_heap (HGB1.out.get 4 rfl) 14
  simp [Inst.cells] at c0 c1 c2 c3 c4 c5 c6 c7 c8 c9 c10 c11 c12 c13 c14
  have p0 := Lib.cell_of_heap (HGB1.out.get 2 rfl) 0
  have p1 := Lib.cell_of_heap (HGB1.out.get 2 rfl) 1
  simp at p0 p1
  have hwr := HWLH.out.2
  go_wp2_with fail
  refine (HQY.out _ (HT.out.below HGB1.out.1)).mono ?_
  rintro e wb2 ⟨rfl, xb⟩
  have HGA2 := hI (HGB1.out.below xb)
  clear xb p0 p1 hwr c0 c1 c2 c3 c4 c5 c6 c7 c8 c9 c10 c11 c12 c13 c14
  clear hWB1
  obtain ⟨WB2, hWB2⟩ : ∃ W, wb2.alloc (.cells #[.string (I qy.num), .string (dn qy)] 25) = W := ⟨_, rfl⟩
  have HGB2 : Hid (BX w [(wb2.heap.size, fobj qy), (wb1.heap.size, fobj qx), (wb0.heap.size, fobj q0), (bp, .cells #[.int .i64 px, .int .i64 py] 50 (0, 0)), (ad.block, .cells cur 50 (0, 0)), (w.heap.size, .cells i.cells 27 (0, 0))] WB2) := by show BX _ _ _; rw [← hWB2]; exact HGA2.out.push _
  clear HGB1 HGA2
  have c0 := Lib.cell_of_heap (HGB2.out.get 5 rfl) 0
  have c1 := Lib.cell_of_heap (HGB2.out.get 5 rfl) 1
  have c2 := Lib.cell_of_heap (HGB2.out.get 5 rfl) 2
  have c3 := Lib.cell_of_heap (HGB2.out.get 5 rfl) 3
  have c4 := Lib.cell_of_heap (HGB2.out.get 5 rfl) 4
  have c5 := Lib.cell_of_heap (HGB2.out.get 5 rfl) 5
  have c6 := Lib.cell_of_heap (HGB2.out.get 5 rfl) 6
  have c7 := Lib.cell_of_heap (HGB2.out.get 5 rfl) 7
  have c8 := Lib.cell_of_heap (HGB2.out.get 5 rfl) 8
  have c9 := Lib.cell_of_heap (HGB2.out.get 5 rfl) 9
  have c10 := Lib.cell_of_heap (HGB2.out.get 5 rfl) 10
  have c11 := Lib.cell_of_heap (HGB2.out.get 5 rfl) 11
  have c12 := Lib.cell_of_heap (HGB2.out.get 5 rfl) 12
  have c13 := Lib.cell_of_heap (HGB2.out.get 5 rfl) 13
  have c14 := Lib.cell_of_heap (HGB2.out.get 5 rfl) 14
  simp [Inst.cells] at c0 c1 c2 c3 c4 c5 c6 c7 c8 c9 c10 c11 c12 c13 c14
  have p0 := Lib.cell_of_heap (HGB2.out.get 3 rfl) 0
  have p1 := Lib.cell_of_heap (HGB2.out.get 3 rfl) 1
  simp at p0 p1
  go_wp2_with fail
  refine (HQC.out _ (HT.out.below HGB2.out.1)).mono ?_
  rintro e wb3 ⟨rfl, xb⟩
  have HGA3 := hI (HGB2.out.below xb)
  clear xb p0 p1 c0 c1 c2 c3 c4 c5 c6 c7 c8 c9 c10 c11 c12 c13 c14
  clear hWB2
  obtain ⟨WB3, hWB3⟩ : ∃ W, wb3.alloc (.cells #[.string (I qc.num), .string (dn qc)] 25) = W := ⟨_, rfl⟩
  have HGB3 : Hid (BX w [(wb3.heap.size, fobj qc), (wb2.heap.size, fobj qy), (wb1.heap.size, fobj qx), (wb0.heap.size, fobj q0), (bp, .cells #[.int .i64 px, .int .i64 py] 50 (0, 0)), (ad.block, .cells cur 50 (0, 0)), (w.heap.size, .cells i.cells 27 (0, 0))] WB3) := by show BX _ _ _; rw [← hWB3]; exact HGA3.out.push _
  clear HGB2 HGA3
  have c0 := Lib.cell_of_heap (HGB3.out.get 6 rfl) 0
  have c1 := Lib.cell_of_heap (HGB3.out.get 6 rfl) 1
  have c2 := Lib.cell_of_heap (HGB3.out.get 6 rfl) 2
  have c3 := Lib.cell_of_heap (HGB3.out.get 6 rfl) 3
  have c4 := Lib.cell_of_heap (HGB3.out.get 6 rfl) 4
  have c5 := Lib.cell_of_heap (HGB3.out.get 6 rfl) 5
  have c6 := Lib.cell_of_heap (HGB3.out.get 6 rfl) 6
  have c7 := Lib.cell_of_heap (HGB3.out.get 6 rfl) 7
  have c8 := Lib.cell_of_heap (HGB3.out.get 6 rfl) 8
  have c9 := Lib.cell_of_heap (HGB3.out.get 6 rfl) 9
  have c10 := Lib.cell_of_heap (HGB3.out.get 6 rfl) 10
  have c11 := Lib.cell_of_heap (HGB3.out.get 6 rfl) 11
  have c12 := Lib.cell_of_heap (HGB3.out.get 6 rfl) 12
  have c13 := Lib.cell_of_heap (HGB3.out.get 6 rfl) 13
  have c14 := Lib.cell_of_heap (HGB3.out.get 6 rfl) 14
  simp [Inst.cells] at c0 c1 c2 c3 c4 c5 c6 c7 c8 c9 c10 c11 c12 c13 c14
  have p0 := Lib.cell_of_heap (HGB3.out.get 4 rfl) 0
  have p1 := Lib.cell_of_heap (HGB3.out.get 4 rfl) 1
  simp at p0 p1
  go_wp2_with fail
  refine (HQE.out _ (HT.out.below HGB3.out.1)).mono ?_
  rintro e wb4 ⟨rfl, xb⟩
  have HGA4 := hI (HGB3.out.below xb)
  clear xb p0 p1 c0 c1 c2 c3 c4 c5 c6 c7 c8 c9 c10 c11 c12 c13 c14
  clear hWB3
  obtain ⟨WB4, hWB4⟩ : ∃ W, wb4.alloc (.cells #[.string (I qe.num), .string (dn qe)] 25) = W := ⟨_, rfl⟩
  have HGB4 : Hid (BX w [(wb4.heap.size, fobj qe), (wb3.heap.size, fobj qc), (wb2.heap.size, fobj qy), (wb1.heap.size, fobj qx), (wb0.heap.size, fobj q0), (bp, .cells #[.int .i64 px, .int .i64 py] 50 (0, 0)), (ad.block, .cells cur 50 (0, 0)), (w.heap.size, .cells i.cells 27 (0, 0))] WB4) := by show BX _ _ _; rw [← hWB4]; exact HGA4.out.push _
  clear HGB3 HGA4
  obtain ⟨z1, hz1⟩ : ∃ z, cmpI q0.num 0 = z := ⟨_, rfl⟩
  obtain ⟨z2, hz2⟩ : ∃ z, cmpI qe.num 0 = z := ⟨_, rfl⟩
  obtain ⟨z3, hz3⟩ : ∃ z, cmpI (qx - qy).num 0 = z := ⟨_, rfl⟩
  obtain ⟨z4, hz4⟩ : ∃ z, cmpI (qy - qc).num 0 = z := ⟨_, rfl⟩
  obtain ⟨z5, hz5⟩ : ∃ z, cmpI qx.num 0 = z := ⟨_, rfl⟩
  have tz1 : (z1 == 0) = true := beq_iff_eq.2 (by rw [← hz1]; exact (cmpz q0).1.2 HLW.out.1)
  have tz2 : (z2 == 0) = true := beq_iff_eq.2 (by rw [← hz2]; exact (cmpz qe).1.2 HLW.out.2.2.2.2)
  have tz3 : decide (z3 ≤ 0) = true := decide_eq_true (by rw [← hz3]; exact cmp_le HLW.out.2.1)
  have tz4 : decide (z4 ≤ 0) = true := decide_eq_true (by rw [← hz4]; exact cmp_le HLW.out.2.2.1)
  have tz5 : decide (z5 ≥ 0) = true := decide_eq_true (by rw [← hz5]; exact num_nn HLW.out.2.2.2.1)
  have tz5' : decide (0 ≤ z5) = true := tz5
  have HS1 := hI (fun W (hW : Tabs W) => sign11_any HBD.out.1 (by omega) W hW)
  rw [hz1] at HS1
  unfold fenc at HS1
  have HS2 := hI (fun W (hW : Tabs W) => sign11_any HBD.out.2.2.2.2 (by omega) W hW)
  rw [hz2] at HS2
  unfold fenc at HS2
  have HS3 := hI (fun W (hW : Tabs W) => fCmpQ HBD.out.2.1 HBD.out.2.2.1 (by omega) (by omega) W hW)
  rw [hz3] at HS3
  unfold fenc at HS3
  have HS4 := hI (fun W (hW : Tabs W) => fCmpQ HBD.out.2.2.1 HBD.out.2.2.2.1 (by omega) (by omega) W hW)
  rw [hz4] at HS4
  unfold fenc at HS4
  have HS5 := hI (fun W (hW : Tabs W) => sign11_any HBD.out.2.1 (by omega) W hW)
  rw [hz5] at HS5
  unfold fenc at HS5
  clear hz1 hz2 hz3 hz4 hz5 HBD HLW
  have fqe0 := Lib.cell_of_heap (HGB4.out.get 0 rfl) 0
  have fqe1 := Lib.cell_of_heap (HGB4.out.get 0 rfl) 1
  simp at fqe0 fqe1
  have fqc0 := Lib.cell_of_heap (HGB4.out.get 1 rfl) 0
  have fqc1 := Lib.cell_of_heap (HGB4.out.get 1 rfl) 1
  simp at fqc0 fqc1
  have fqy0 := Lib.cell_of_heap (HGB4.out.get 2 rfl) 0
  have fqy1 := Lib.cell_of_heap (HGB4.out.get 2 rfl) 1
  simp at fqy0 fqy1
  have fqx0 := Lib.cell_of_heap (HGB4.out.get 3 rfl) 0
  have fqx1 := Lib.cell_of_heap (HGB4.out.get 3 rfl) 1
  simp at fqx0 fqx1
  have fq00 := Lib.cell_of_heap (HGB4.out.get 4 rfl) 0
  have fq01 := Lib.cell_of_heap (HGB4.out.get 4 rfl) 1
  simp at fq00 fq01
  go_wp2_with fail
  refine (HS1.out _ (HT.out.below HGB4.out.1)).mono ?_
  rintro e wc0 ⟨rfl, xb⟩
  have HGC0 := hI (HGB4.out.below xb)
  clear xb HGB4 fqe0 fqe1 fqc0 fqc1 fqy0 fqy1 fqx0 fqx1 fq00 fq01 hWB4
  have fqe0 := Lib.cell_of_heap (HGC0.out.get 0 rfl) 0
  have fqe1 := Lib.cell_of_heap (HGC0.out.get 0 rfl) 1
  simp at fqe0 fqe1
  have fqc0 := Lib.cell_of_heap (HGC0.out.get 1 rfl) 0
  have fqc1 := Lib.cell_of_heap (HGC0.out.get 1 rfl) 1
  simp at fqc0 fqc1
  have fqy0 := Lib.cell_of_heap (HGC0.out.get 2 rfl) 0
  have fqy1 := Lib.cell_of_heap (HGC0.out.get 2 rfl) 1
  simp at fqy0 fqy1
  have fqx0 := Lib.cell_of_heap (HGC0.out.get 3 rfl) 0
  have fqx1 := Lib.cell_of_heap (HGC0.out.get 3 rfl) 1
  simp at fqx0 fqx1
  have fq00 := Lib.cell_of_heap (HGC0.out.get 4 rfl) 0
  have fq01 := Lib.cell_of_heap (HGC0.out.get 4 rfl) 1
  simp at fq00 fq01
  go_wp2_with fail
  refine (HS2.out _ (HT.out.below HGC0.out.1)).mono ?_
  rintro e wc1 ⟨rfl, xb⟩
  have HGC1 := hI (HGC0.out.below xb)
  clear xb HGC0 fqe0 fqe1 fqc0 fqc1 fqy0 fqy1 fqx0 fqx1 fq00 fq01
  have fqe0 := Lib.cell_of_heap (HGC1.out.get 0 rfl) 0
  have fqe1 := Lib.cell_of_heap (HGC1.out.get 0 rfl) 1
  simp at fqe0 fqe1
  have fqc0 := Lib.cell_of_heap (HGC1.out.get 1 rfl) 0
  have fqc1 := Lib.cell_of_heap (HGC1.out.get 1 rfl) 1
  simp at fqc0 fqc1
  have fqy0 := Lib.cell_of_heap (HGC1.out.get 2 rfl) 0
  have fqy1 := Lib.cell_of_heap (HGC1.out.get 2 rfl) 1
  simp at fqy0 fqy1
  have fqx0 := Lib.cell_of_heap (HGC1.out.get 3 rfl) 0
  have fqx1 := Lib.cell_of_heap (HGC1.out.get 3 rfl) 1
  simp at fqx0 fqx1
  have fq00 := Lib.cell_of_heap (HGC1.out.get 4 rfl) 0
  have fq01 := Lib.cell_of_heap (HGC1.out.get 4 rfl) 1
  simp at fq00 fq01
  go_wp2_with fail
  refine (HS3.out _ (HT.out.below HGC1.out.1)).mono ?_
  rintro e wc2 ⟨rfl, xb⟩
  have HGC2 := hI (HGC1.out.below xb)
  clear xb HGC1 fqe0 fqe1 fqc0 fqc1 fqy0 fqy1 fqx0 fqx1 fq00 fq01
  have fqe0 := Lib.cell_of_heap (HGC2.out.get 0 rfl) 0
  have fqe1 := Lib.cell_of_heap (HGC2.out.get 0 rfl) 1
  simp at fqe0 fqe1
  have fqc0 := Lib.cell_of_heap (HGC2.out.get 1 rfl) 0
  have fqc1 := Lib.cell_of_heap (HGC2.out.get 1 rfl) 1
  simp at fqc0 fqc1
  have fqy0 := Lib.cell_of_heap (HGC2.out.get 2 rfl) 0
  have fqy1 := Lib.cell_of_heap (HGC2.out.get 2 rfl) 1
  simp at fqy0 fqy1
  have fqx0 := Lib.cell_of_heap (HGC2.out.get 3 rfl) 0
  have fqx1 := Lib.cell_of_heap (HGC2.out.get 3 rfl) 1
  simp at fqx0 fqx1
  have fq00 := Lib.cell_of_heap (HGC2.out.get 4 rfl) 0
  have fq01 := Lib.cell_of_heap (HGC2.out.get 4 rfl) 1
  simp at fq00 fq01
  go_wp2_with fail
  refine (HS4.out _ (HT.out.below HGC2.out.1)).mono ?_
  rintro e wc3 ⟨rfl, xb⟩
  have HGC3 := hI (HGC2.out.below xb)
  clear xb HGC2 fqe0 fqe1 fqc0 fqc1 fqy0 fqy1 fqx0 fqx1 fq00 fq01
  have fqe0 := Lib.cell_of_heap (HGC3.out.get 0 rfl) 0
  have fqe1 := Lib.cell_of_heap (HGC3.out.get 0 rfl) 1
  simp at fqe0 fqe1
  have fqc0 := Lib.cell_of_heap (HGC3.out.get 1 rfl) 0
  have fqc1 := Lib.cell_of_heap (HGC3.out.get 1 rfl) 1
  simp at fqc0 fqc1
  have fqy0 := Lib.cell_of_heap (HGC3.out.get 2 rfl) 0
  have fqy1 := Lib.cell_of_heap (HGC3.out.get 2 rfl) 1
  simp at fqy0 fqy1
  have fqx0 := Lib.cell_of_heap (HGC3.out.get 3 rfl) 0
  have fqx1 := Lib.cell_of_heap (HGC3.out.get 3 rfl) 1
  simp at fqx0 fqx1
  have fq00 := Lib.cell_of_heap (HGC3.out.get 4 rfl) 0
  have fq01 := Lib.cell_of_heap (HGC3.out.get 4 rfl) 1
  simp at fq00 fq01
  go_wp2_with fail
  refine (HS5.out _ (HT.out.below HGC3.out.1)).mono ?_
  rintro e wc4 ⟨rfl, xb⟩
  have HGC4 := hI (HGC3.out.below xb)
  clear xb HGC3 fqe0 fqe1 fqc0 fqc1 fqy0 fqy1 fqx0 fqx1 fq00 fq01
  go_wp2_with fail
  refine (awake11_any _ (HT.out.below HGC4.out.1)).mono ?_
  rintro e wd ⟨rfl, xb⟩
  have HB9 := hI (HGC4.out.below xb).1
  clear xb
  go_wp2_with fail
  go_ret
  exact ⟨rfl, HB9.out⟩
end Go.Proofs.YtnnjgpgccifknaaGreatDoor
