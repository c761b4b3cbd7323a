/-
  The walk of bond.Coupon. (Printed by gen_bd16.py.)
  Plain facts of bonds: periods, interest, flows, present values.
  Plain facts of the flows of bonds; of a bond with the double face.
  The bond of the chapter's example, plainly: periods, flows, interest, present values.
-/
import Derived.Test.YteennkgpeiafaaaGreatDoorE33
set_option linter.unusedVariables false
set_option linter.unusedSimpArgs false
set_option maxHeartbeats 16000000
set_option maxRecDepth 100000
namespace Go.Proofs.YteennkgpeiafaaaGreatDoor
open Go.RowKit Tr Go.Shelf
attribute [local go_sem] Oper.semAt_some
structure CPNV (w : World) (i : Inst) (ad : Addr) (cur : Array Value) (N cap k : Nat) (px py : Int) (iq : Rat)  (L : Array Bool) (W : World) (s5 s26 s27 s28 s29 s30 s31 s32 s33 s34 s35 s36 s37 : Value) : Prop where
 k0 : L.getD 0 false = true → s26 = .agg #[.string i.id, .int .i64 i.kind, .string i.cur, .int .i64 i.places, .int .i64 i.issued, .int .i64 i.matures, .string i.fn, .string i.fd, .string i.cn, .string i.cd, .int .i64 i.months, .int .i64 i.count, .string i.other, .string i.sn, .string i.sd]
 k1 : L.getD 1 false = true → s27 = .slice (some ad) N cap
 k2 : L.getD 2 false = true → s28 = .int .i64 (k : Int)
 k3 : L.getD 3 false = true → s29 = .pointer (some (ad.add (k * 2)))
 k4 : L.getD 4 false = true → s30 = .pointer (some (ad.add (k * 2)))
 k5 : L.getD 5 false = true → s31 = .int .i64 px
 k6 : L.getD 6 false = true → s32 = .slice (some ad) N cap
 k7 : L.getD 7 false = true → s33 = .int .i64 (k : Int)
 k8 : L.getD 8 false = true → s34 = .pointer (some (ad.add (k * 2)))
 k9 : L.getD 9 false = true → s35 = .pointer (some ⟨(ad.add (k * 2)).block, (ad.add (k * 2)).off + 1, none⟩)
 k10 : L.getD 10 false = true → s36 = .int .i64 py
 k11 : L.getD 11 false = true → s37 = .agg #[.string (I iq.num), .string (dn iq)]
 k13 : L.getD 13 false = true → s5 = .int .i64 0
 bx : BX w [(w.heap.size, .cells i.cells 27 (0, 0)), (ad.block, .cells cur 50 (0, 0))] W
 o12 : L.getD 12 false = false → W.heap[w.heap.size + 1]? = some (fz)
 n12 : L.getD 12 false = true → W.heap[w.heap.size + 1]? = some (fobj iq)
structure CPNJ (w : World) (i : Inst) (ad : Addr) (cur : Array Value) (N cap k : Nat) (px py : Int) (iq : Rat) (x0 x3 x7 x8 x9 x10 x11 x12 x13 x14 x15 x16 x17 x18 x19 x20 x21 x22 x23 x24 x25 : Value) (L : Array Bool) (a : Act) (W : World) : Prop where
 sz : L.size = 14
 fr : ∃ s5 s26 s27 s28 s29 s30 s31 s32 s33 s34 s35 s36 s37 : Value, a = { tmps := #[x0, .int .i64 (k : Int), .pointer (some ⟨w.heap.size, 0, none⟩), x3, .pointer (some ⟨w.heap.size + 1, 0, none⟩), s5, .slice (some ad) N cap, x7, x8, x9, x10, x11, x12, x13, x14, x15, x16, x17, x18, x19, x20, x21, x22, x23, x24, x25, s26, s27, s28, s29, s30, s31, s32, s33, s34, s35, s36, s37], defers := [] } ∧ CPNV w i ad cur N cap k px py iq  L W s5 s26 s27 s28 s29 s30 s31 s32 s33 s34 s35 s36 s37
def CoupP (w : World) (i : Inst) (z : Int) (e : Ending) (w' : World) : Prop :=
 Below w.heap.size w w' ∧ ((400 ≤ (cuts i.issued i.matures i.months).length ∧ e = .returned (.tuple #[fenc 0, .int .i64 4])) ∨ ((cuts i.issued i.matures i.months).length ≤ 399 ∧
  ((¬ (0 ≤ z ∧ z < ((perL i).length : Int)) ∧ e = .returned (.tuple #[fenc 0, .int .i64 2])) ∨
    ∃ (k : Nat) (p : Int × Int), z = (k : Int) ∧ (perL i)[k]? = some p ∧ e = .returned (.tuple #[fenc (intQ i p.1 p.2), .int .i64 0]))))
theorem bCoupon_any (i : Inst) (h : BdI i) (z : Int) (w : World) (ht : Tabs w) : Calls Tryz.prog 27 #[i.enc, .int .i64 z] w (CoupP w i z) := by
 have HH := hI h
 have HP := hI (fun W (hW : Tabs W) => bPer_any i h W hW)
 have HT := hI ht
 obtain ⟨Q, hQ⟩ : ∃ Q, CoupP w i z = Q := ⟨_, rfl⟩
 rw [hQ]
 have HQ := hI hQ
 have HZ := hI fenc_zero
 obtain ⟨W0, hW0', hB0, hz, k0, k1⟩ := box2 w (.cells i.cells 27) fz
 have hW0 := hW0'.symm
 have hg0 : BX w [(w.heap.size, .cells i.cells 27 (0, 0)), (w.heap.size + 1, fz)] W0 := ⟨hB0, fun x hx => by
  rcases List.mem_cons.1 hx with rfl | hx
  ·exact k0
  ·rcases List.mem_cons.1 hx with rfl | hx
   ·exact k1
   ·cases hx⟩
 have hsz : w.heap.size + 2 ≤ W0.heap.size := by omega
 have c0 := Lib.cell_of_heap k0 0
 have c1 := Lib.cell_of_heap k0 1
 have c2 := Lib.cell_of_heap k0 2
 have c3 := Lib.cell_of_heap k0 3
 have c4 := Lib.cell_of_heap k0 4
 have c5 := Lib.cell_of_heap k0 5
 have c6 := Lib.cell_of_heap k0 6
 have c7 := Lib.cell_of_heap k0 7
 have c8 := Lib.cell_of_heap k0 8
 have c9 := Lib.cell_of_heap k0 9
 have c10 := Lib.cell_of_heap k0 10
 have c11 := Lib.cell_of_heap k0 11
 have c12 := Lib.cell_of_heap k0 12
 have c13 := Lib.cell_of_heap k0 13
 have c14 := Lib.cell_of_heap k0 14
 simp [Inst.cells] at c0 c1 c2 c3 c4 c5 c6 c7 c8 c9 c10 c11 c12 c13 c14
 clear hB0 hz k0 k1 hW0' h ht hQ
 unfold Inst.enc Inst.cells at *
 go_enter Tryz.func27, Tryz.ntmps27
 go_wp2_with fail
 refine (HP.out _ (HT.out.below hg0.1)).mono ?_
 rintro e w1 ⟨x1, hr⟩
 have hg1 := hg0.below x1
 have k2 := hg1.get 1 rfl
 have m0 := Lib.cell_of_heap k2 0
 have m1 := Lib.cell_of_heap k2 1
 have f0 := Lib.frozen_of_heap k2 0
 have f1 := Lib.frozen_of_heap k2 1
 simp at m0 m1 f0 f1
 have HG1 := hI hg1
 have HK2 := hI k2
 clear hg0 hg1 k2 x1 hW0 c0 c1 c2 c3 c4 c5 c6 c7 c8 c9 c10 c11 c12 c13 c14
 rcases hr with ⟨hl, rfl⟩ | ⟨hl, v, rfl, hown⟩
 ·have HL := hI hl
  clear hl
  go_wp2_with fail
  refine bodyPost_ret (results_row_tmp2 rfl _ _ (w.heap.size + 1) _ _ (0, 0) _ rfl (Go.Proofs.YteennkgpeiafaaaGreatDoor.set2 HK2.out _ _) Tryz.underlying25 rfl (by kernel_rfl)) rfl ?_
  rw [← HQ.out]
  exact ⟨set2_below (by omega) HG1.out.1 _ _, .inl ⟨HL.out, by rw [HZ.out]; rfl⟩⟩
 have HL := hI hl
 obtain ⟨ad, cap, cur, rfl, _, hab, hbx, hrr⟩ := RdP.own_box hown (pers_ne _ _ _)
 obtain ⟨N, hN⟩ : ∃ N, (pers i.issued i.matures i.months).length = N := ⟨_, rfl⟩
 rw [hN]
 have HN : Hid ((perL i).length = N) := hN
 have HRR : Hid (∀ W' : World, W'.heap[ad.block]? = some (.cells cur 50 (0, 0)) → RdP W' ad (perL i)) := hrr
 have hab2 : w.heap.size + 2 ≤ ad.block := by omega
 have hN4 : N ≤ 400 := by
  have h1 := pers_len i.issued i.matures i.months
  omega
 have HBX := hI hbx
 clear hl hown hab hbx hrr hN hsz
 by_cases hz : 0 ≤ z ∧ z < (N : Int)
 ·obtain ⟨k, rfl⟩ : ∃ k : Nat, z = (k : Int) := ⟨z.toNat, by omega⟩
  have hkl : k < N := by omega
  have t1 : decide ((k : Int) < 0) = false := decide_eq_false (by omega)
  have t2 : decide ((k : Int) ≥ (N : Int)) = false := decide_eq_false (by omega)
  have t3 : decide ((N : Int) ≤ (k : Int)) = false := decide_eq_false (by omega)
  have t4 : decide (N ≤ k) = false := decide_eq_false (by omega)
  obtain ⟨⟨px, py⟩, hp⟩ : ∃ p, (perL i)[k]? = some p := ⟨_, List.getElem?_eq_getElem (by rw [HN.out]; exact hkl)⟩
  have HPK := hI hp
  have hpx := HH.out.per (List.mem_of_getElem? hp)
  simp only at hpx
  have hlt2 : px < py := pers_lt HH.out.mo.1 HH.out.mat.1.1 HH.out.mat.1.2 HH.out.mat.2 hp
  have hIN := fun W (hW : Tabs W) => bInt_any i HH.out px py hpx.1 hpx.2 (Int.le_of_lt hlt2) W hW
  obtain ⟨iq, hiq⟩ : ∃ iq, intQ i px py = iq := ⟨_, rfl⟩
  rw [hiq] at hIN
  have HIQ := hI hiq
  unfold fenc at hIN
  have HIN : Hid (∀ W, BX w [(w.heap.size, .cells i.cells 27 (0, 0)), (ad.block, .cells cur 50 (0, 0))] W → Calls Tryz.prog 77 #[.agg #[.string i.id, .int .i64 i.kind, .string i.cur, .int .i64 i.places, .int .i64 i.issued, .int .i64 i.matures, .string i.fn, .string i.fd, .string i.cn, .string i.cd, .int .i64 i.months, .int .i64 i.count, .string i.other, .string i.sn, .string i.sd], .int .i64 px, .int .i64 py] W fun e w' => e = .returned (.agg #[.string (I iq.num), .string (dn iq)]) ∧ Below W.heap.size W w') := fun W hW => hIN W (HT.out.below hW.1)
  have hg : BX w [(w.heap.size, .cells i.cells 27 (0, 0)), (ad.block, .cells cur 50 (0, 0))] w1.drew := ⟨HG1.out.1.drew, fun z hz => by
   rcases List.mem_cons.1 hz with rfl | hz
   ·exact HG1.out.get 0 rfl
   ·rcases List.mem_cons.1 hz with rfl | hz
    ·exact HBX.out
    ·cases hz⟩
  have hko12 : w1.drew.heap[w.heap.size + 1]? = some fz := HK2.out
  clear hp hpx hlt2 hIN hiq hz m0 m1 f0 f1
  go_wp2_with fail
  have mixed : Tryz.prog.follows .mixedOrders = true := by kernel_rfl
  refine wp_region_any mixed (wpAny_inv (CPNJ w i ad cur N cap k px py iq _ _ _ _ _ _ _ _ _ _ _ _ _ _ _ _ _ _ _ _ _) ?stCPN ?dnCPN _ _ _ _ ⟨by simp, ⟨_, _, _, _, _, _, _, _, _, _, _, _, _, rfl, fun h => by simp at h, fun h => by simp at h, fun h => by simp at h, fun h => by simp at h, fun h => by simp at h, fun h => by simp at h, fun h => by simp at h, fun h => by simp at h, fun h => by simp at h, fun h => by simp at h, fun h => by simp at h, fun h => by simp at h, fun h => by simp at h, hg, fun _ => hko12, fun h => by simp at h⟩⟩ (by decide))
  case dnCPN =>
   intro L a w' hj hr
   have all := all_on hr hj.sz (by kernel_rfl)
   obtain ⟨s5, s26, s27, s28, s29, s30, s31, s32, s33, s34, s35, s36, s37, rfl, hv⟩ := hj.fr
   have HF := hI (And.intro (hv.n12 (all 12 (by omega))) (And.intro hv.bx.1 (hv.k13 (all 13 (by omega)))))
   clear all hv hj hr
   obtain ⟨_, _, e7⟩ := HF.out
   subst e7
   go_wp2_with fail
   refine bodyPost_ret (results_row_tmp2 rfl _ _ (w.heap.size + 1) _ _ (0, 0) _ rfl HF.out.1 Tryz.underlying25 rfl (by kernel_rfl)) rfl ?_
   rw [← HQ.out]
   exact ⟨HF.out.2.1, .inr ⟨HL.out, .inr ⟨k, (px, py), rfl, HPK.out, by rw [HIQ.out]; rfl⟩⟩⟩
  case stCPN =>
   intro L a w' hj i hi
   obtain ⟨hun, o, ho, hall⟩ := mem_ready.1 hi
   have hoff := getD_off hun
   have hlt := (Array.getElem?_eq_some_iff.1 ho).1
   simp at hlt
   obtain ⟨s5, s26, s27, s28, s29, s30, s31, s32, s33, s34, s35, s36, s37, rfl, hv⟩ := hj.fr
   have HV := hI hv
   have HJ := hI hj
   clear hv hj
   rcases (show i = 0 ∨ i = 1 ∨ i = 2 ∨ i = 3 ∨ i = 4 ∨ i = 5 ∨ i = 6 ∨ i = 7 ∨ i = 8 ∨ i = 9 ∨ i = 10 ∨ i = 11 ∨ i = 12 ∨ i = 13 from by omega) with rfl | rfl | rfl | rfl | rfl | rfl | rfl | rfl | rfl | rfl | rfl | rfl | rfl | rfl
   all_goals simp at ho
   all_goals subst ho
   have hb := HV.out.bx.get 0 rfl; have c0 := Lib.cell_of_heap hb 0; have c1 := Lib.cell_of_heap hb 1; have c2 := Lib.cell_of_heap hb 2; have c3 := Lib.cell_of_heap hb 3; have c4 := Lib.cell_of_heap hb 4; have c5 := Lib.cell_of_heap hb 5; have c6 := Lib.cell_of_heap hb 6; have c7 := Lib.cell_of_heap hb 7; have c8 := Lib.cell_of_heap hb 8; have c9 := Lib.cell_of_heap hb 9; have c10 := Lib.cell_of_heap hb 10; have c11 := Lib.cell_of_heap hb 11; have c12 := Lib.cell_of_heap hb 12; have c13 := Lib.cell_of_heap hb 13; have c14 := Lib.cell_of_heap hb 14
   simp [Inst.cells] at c0 c1 c2 c3 c4 c5 c6 c7 c8 c9 c10 c11 c12 c13 c14
   rotate_left
   rotate_left
   rotate_left
   cases HV.out.k1 (Hq hall 1).out
   cases HV.out.k2 (Hq hall 2).out
   have hki : (k : Int) < (N : Int) := by omega
   rotate_left
   cases HV.out.k3 (Hq hall 3).out
   rotate_left
   cases HV.out.k4 (Hq hall 4).out
   obtain ⟨cx, cy⟩ := (HRR.out _ (HV.out.bx.get 1 rfl)).2 k (px, py) HPK.out
   simp only at cx cy
   rotate_left
   rotate_left
   rotate_left
   cases HV.out.k6 (Hq hall 6).out
   cases HV.out.k7 (Hq hall 7).out
   have hki : (k : Int) < (N : Int) := by omega
   rotate_left
   cases HV.out.k8 (Hq hall 8).out
   rotate_left
   cases HV.out.k9 (Hq hall 9).out
   obtain ⟨cx, cy⟩ := (HRR.out _ (HV.out.bx.get 1 rfl)).2 k (px, py) HPK.out
   simp only at cx cy
   rotate_left
   ·cases HV.out.k0 (Hq hall 0).out
    cases HV.out.k5 (Hq hall 5).out
    cases HV.out.k10 (Hq hall 10).out
    clear hall hi
    refine wpOp_hid rfl fun K' HK => ?_
    go_simp
    refine (HIN.out _ HV.out.bx).mono ?_
    rintro e wn ⟨rfl, hbn⟩
    cases HV.out
    refine HK.out _ _ ⟨by simp [HJ.out.sz], ⟨_, _, _, _, _, _, _, _, _, _, _, _, _, rfl, ?_, ?_, ?_, ?_, ?_, ?_, ?_, ?_, ?_, ?_, ?_, fun _ => rfl, ?_, HV.out.bx.below hbn, fun h => bkeep hbn (HV.out.o12 (getD_df (by decide) h)), fun h => bkeep hbn (HV.out.n12 (getD_dn (by decide) h))⟩⟩
    all_goals exact Um (by assumption)
   ·cases HV.out.k11 (Hq hall 11).out
    clear hall hi
    have hko := HV.out.o12 hoff
    have m0 := Lib.cell_of_heap hko 0; have m1 := Lib.cell_of_heap hko 1; have f0 := Lib.frozen_of_heap hko 0; have f1 := Lib.frozen_of_heap hko 1
    simp at m0 m1 f0 f1
    refine wpOp_hid rfl fun K' HK => ?_
    go_simp
    cases HV.out
    refine HK.out _ _ ⟨by simp [HJ.out.sz], ⟨_, _, _, _, _, _, _, _, _, _, _, _, _, rfl, ?_, ?_, ?_, ?_, ?_, ?_, ?_, ?_, ?_, ?_, ?_, ?_, ?_, HV.out.bx.far (b := w.heap.size + 1) (by omega) (by simp <;> omega) _ _, fun h => (not_on h (getD_set_same hun)).elim, fun _ => set2 hko _ _⟩⟩
    all_goals exact Um (by assumption)
   rotate_left
   all_goals
    clear hall hi
    refine wpOp_hid rfl fun K' HK => ?_
    go_simp
    cases HV.out
    refine HK.out _ _ ⟨by simp [HJ.out.sz], ?_⟩
    iterate 13 apply Exists.intro
    refine ⟨rfl, ?_⟩
    constructor
    all_goals first | exact Um (by assumption) | exact Un (by assumption) | exact Uf (by assumption) | exact fun _ => rfl | assumption
 ·have HNZ := hI hz
  have hx : decide (z < 0) = true ∨ (decide (z < 0) = false ∧ decide (z ≥ (N : Int)) = true ∧ decide ((N : Int) ≤ z) = true) := by
   rcases Int.lt_or_le z 0 with h | h
   ·exact .inl (decide_eq_true h)
   ·exact .inr ⟨decide_eq_false (by omega), decide_eq_true (by omega), decide_eq_true (by omega)⟩
  clear hz
  rcases hx with t1 | ⟨t1, t2, t3⟩
  all_goals
   go_wp2_with fail
   refine bodyPost_ret (results_row_tmp2 rfl _ _ (w.heap.size + 1) _ _ (0, 0) _ rfl (Go.Proofs.YteennkgpeiafaaaGreatDoor.set2 HK2.out _ _) Tryz.underlying25 rfl (by kernel_rfl)) rfl ?_
   rw [← HQ.out]
   exact ⟨set2_below (by omega) HG1.out.1 _ _, .inr ⟨HL.out, .inl ⟨by rw [HN.out]; exact HNZ.out, by rw [HZ.out]; rfl⟩⟩⟩
end Go.Proofs.YteennkgpeiafaaaGreatDoor
namespace Go.Proofs.YteennkgpeiafaaaGreatDoor
open Go.RowKit Tr Go.Shelf
theorem numchk_can {n d : ByteArray} (h : numchk n d = 0) : CanQ n d := by
 refine Classical.byContradiction fun hc => ?_
 unfold numchk at h
 rw [if_pos hc] at h
 exact absurd h (by decide)
theorem canQ_vl {n d : ByteArray} (h : CanQ n d) : vl n = (fv n d).num := by
 have h1 := congrArg vl h.1
 rw [vl_I] at h1
 exact h1
theorem BdI.fQ {i : Inst} (h : BdI i) : CanQ i.fn i.fd := numchk_can h.ok.n1
theorem BdI.cQ {i : Inst} (h : BdI i) : CanQ i.cn i.cd := numchk_can h.ok.n2
theorem BdI.face_pos {i : Inst} (h : BdI i) : 0 < fv i.fn i.fd := num_pos'.1 (by rw [← canQ_vl h.fQ]; exact h.bo.1)
theorem BdI.coup_nn {i : Inst} (h : BdI i) : 0 ≤ fv i.cn i.cd := Rat.num_nonneg.1 (by rw [← canQ_vl h.cQ]; exact h.bo.2.1)
theorem BdI.fc_nn {i : Inst} (h : BdI i) : 0 ≤ fv i.fn i.fd * fv i.cn i.cd := Rat.mul_nonneg (Rat.le_of_lt h.face_pos) h.coup_nn
theorem pers_get {a b mo : Int} {k : Nat} {p : Int × Int} (h : (pers a b mo)[k]? = some p) : (ends a b mo)[k]? = some p.1 ∧ (ends a b mo)[k + 1]? = some p.2 := by
 unfold pers at h
 rw [pairs_get] at h
 split at h
 ·rename_i x y hx hy
  injection h with h; subst h
  exact ⟨hx, hy⟩
 ·cases h
theorem ends_len (a b mo : Int) : (ends a b mo).length = (pers a b mo).length + 1 := by
 rw [pers_len]
 unfold ends
 rw [List.length_cons, List.length_append, List.length_reverse]
 rfl
theorem ends_lt {i : Inst} (h : BdI i) {j k : Nat} {x y : Int} (hx : (ends i.issued i.matures i.months)[j]? = some x) (hy : (ends i.issued i.matures i.months)[k]? = some y) (hjk : j < k) : x < y := by
 obtain ⟨i1, e1⟩ := List.getElem?_eq_some_iff.1 hx
 obtain ⟨i2, e2⟩ := List.getElem?_eq_some_iff.1 hy
 have := List.pairwise_iff_getElem.1 (ends_asc h.mo.1 h.mat.1.1 h.mat.1.2 h.mat.2) j k i1 i2 hjk
 rw [e1, e2] at this
 exact this
theorem ends_le {i : Inst} (h : BdI i) {j k : Nat} {x y : Int} (hx : (ends i.issued i.matures i.months)[j]? = some x) (hy : (ends i.issued i.matures i.months)[k]? = some y) (hjk : j ≤ k) : x ≤ y := by
 rcases Nat.lt_or_ge j k with h1 | h1
 ·exact Int.le_of_lt (ends_lt h hx hy h1)
 ·have : j = k := by omega
  subst this
  rw [hx] at hy
  injection hy with hy
  omega
theorem per_lt {i : Inst} (h : BdI i) {k : Nat} {p : Int × Int} (hp : (perL i)[k]? = some p) : p.1 < p.2 := pers_lt h.mo.1 h.mat.1.1 h.mat.1.2 h.mat.2 hp
theorem per_in {i : Inst} (h : BdI i) {k : Nat} {p : Int × Int} (hp : (perL i)[k]? = some p) : i.issued ≤ p.1 ∧ p.1 ≤ i.matures ∧ i.issued ≤ p.2 ∧ p.2 ≤ i.matures := pers_ok h.mo.1 h.mat.1.1 h.mat.1.2 h.mat.2 (List.mem_of_getElem? hp)
theorem per_next {i : Inst} {k : Nat} {p q : Int × Int} (hp : (perL i)[k]? = some p) (hq : (perL i)[k + 1]? = some q) : p.2 = q.1 := by
 have h1 := (pers_get hp).2
 rw [(pers_get hq).1] at h1
 injection h1 with h1
 exact h1.symm
theorem per_last {i : Inst} {k : Nat} {p : Int × Int} (hp : (perL i)[k]? = some p) (hk : k + 1 = (perL i).length) : p.2 = i.matures := by
 have h1 := (pers_get hp).2
 have h2 := ends_len i.issued i.matures i.months
 have h3 : (ends i.issued i.matures i.months).getLast? = some i.matures := by unfold ends; rw [← List.cons_append]; exact List.getLast?_concat
 rw [List.getLast?_eq_getElem?, h2] at h3
 have e : (pers i.issued i.matures i.months).length + 1 - 1 = k + 1 := by show (perL i).length + 1 - 1 = _; omega
 rw [e, h1] at h3
 injection h3
theorem per_at {i : Inst} (h : BdI i) {k : Nat} {p : Int × Int} (hp : (perL i)[k]? = some p) {d : Int} (h1 : p.1 ≤ d) (h2 : d < p.2) : atZ (perL i) d = (k : Int) := by
 refine atZ_some hp (by unfold inP; rw [decide_eq_true h1, decide_eq_true h2]; rfl) fun x hx => ?_
 obtain ⟨j, hj, rfl⟩ := List.mem_take_iff_getElem.1 hx
 have hx2 : (perL i)[j]? = some (perL i)[j] := List.getElem?_eq_getElem (by omega)
 have := ends_le h (pers_get hx2).2 (pers_get hp).1 (by omega)
 unfold inP
 rw [decide_eq_false (p := d < (perL i)[j].2) (by omega), Bool.and_false]
theorem dcF_self {c a : Int} (ha : okDay a) : dcF c a a = 0 := by
 have z : ((0 : Int) : Rat) = 0 := rfl
 unfold dcF
 split
 ·exact Rat.sub_self
 ·split
  ·rw [Int.sub_self, z, Rat.div_def, Rat.zero_mul]
  ·split
   ·rw [Int.sub_self, z, Rat.div_def, Rat.zero_mul]
   ·rw [days30_self ha.1 ha.2, z, Rat.div_def, Rat.zero_mul]
theorem divc_mono {a b : Int} {c : Rat} (hc : 0 < c) (h : a ≤ b) : (a : Rat) / c ≤ (b : Rat) / c := by
 rw [Rat.div_def, Rat.div_def]
 exact Rat.mul_le_mul_of_nonneg_right (Rat.intCast_le_intCast.2 h) (Rat.le_of_lt (Rat.inv_pos.2 hc))
theorem dcF_mono {c a b d : Int} (ha : okDay a) (hb : okDay b) (h : b ≤ d) (hd : okDay d) : dcF c a b ≤ dcF c a d := by
 unfold dcF
 split
 ·have := yrs_mono hb.1 h hd.2
  grind
 ·split
  ·exact divc_mono (by decide) (by omega)
  ·split
   ·exact divc_mono (by decide) (by omega)
   ·exact divc_mono (by decide) (days30_mono ha.1 ha.2 hb.1 h hd.2)
theorem dcF_nn {c a b : Int} (ha : okDay a) (hb : okDay b) (h : a ≤ b) : 0 ≤ dcF c a b := by
 have := dcF_mono (c := c) ha ha h hb
 rw [dcF_self ha] at this
 exact this
theorem intQ_nn {i : Inst} (h : BdI i) {a b : Int} (ha : okDay a) (hb : okDay b) (hab : a ≤ b) : 0 ≤ intQ i a b := Rat.mul_nonneg h.fc_nn (dcF_nn ha hb hab)
theorem acc_per {i : Inst} (h : BdI i) {k : Nat} {p : Int × Int} (hp : (perL i)[k]? = some p) {d : Int} (h1 : p.1 ≤ d) (h2 : d < p.2) : accQ i d = intQ i p.1 d := accQ_some (per_at h hp h1 h2) hp
noncomputable def coupQ (i : Inst) (k : Nat) : Rat := intQ i ((perL i).getD k (0, 0)).1 ((perL i).getD k (0, 0)).2
theorem coupQ_eq {i : Inst} {k : Nat} {p : Int × Int} (hp : (perL i)[k]? = some p) : coupQ i k = intQ i p.1 p.2 := by
 unfold coupQ
 rw [List.getD_eq_getElem?_getD, hp]
 rfl
theorem coupQ_nn {i : Inst} (h : BdI i) {k : Nat} (hk : k < (perL i).length) : 0 ≤ coupQ i k := by
 obtain ⟨p, hp⟩ : ∃ p, (perL i)[k]? = some p := ⟨_, List.getElem?_eq_getElem hk⟩
 have ho := h.per (List.mem_of_getElem? hp)
 rw [coupQ_eq hp]
 exact intQ_nn h ho.1 ho.2 (Int.le_of_lt (per_lt h hp))
theorem payAt_2 (i : Inst) (k : Nat) : (payAt i (perL i) k).2.2 = coupQ i k + (if k + 1 = (perL i).length then fv i.fn i.fd else 0) := rfl
theorem amt_at {i : Inst} {k : Nat} (h : k < (perL i).length) : (amtL i)[k]? = some (coupQ i k + (if k + 1 = (perL i).length then fv i.fn i.fd else 0)) := by rw [amtL_get i h, payAt_2]
theorem amt_nn {i : Inst} (h : BdI i) : ∀ x ∈ amtL i, 0 ≤ x := by
 intro x hx
 obtain ⟨k, hk⟩ := List.getElem?_of_mem hx
 have hl : k < (perL i).length := by rw [← amtL_len]; exact (List.getElem?_eq_some_iff.1 hk).1
 rw [amt_at hl] at hk
 injection hk with hk
 subst hk
 have h1 := coupQ_nn h hl
 have h2 := h.face_pos
 split <;> grind
theorem amt_drop {i : Inst} {k : Nat} (h : k < (perL i).length) : (amtL i).drop k = (coupQ i k + (if k + 1 = (perL i).length then fv i.fn i.fd else 0)) :: (amtL i).drop (k + 1) := by
 obtain ⟨hj, e⟩ := List.getElem?_eq_some_iff.1 (amt_at h)
 rw [List.drop_eq_getElem_cons hj, e]
theorem pres_beg {i : Inst} (h : BdI i) {k : Nat} {p : Int × Int} (hp : (perL i)[k]? = some p) (y : Rat) : presQ i p.1 y = pv (1 + y) ((amtL i).drop k) := by
 have hk := (List.getElem?_eq_some_iff.1 hp).1
 have hlt := per_lt h hp
 rw [presQ_some (per_at h hp (Int.le_refl _) hlt) hp (amt_at hk), amt_drop hk, pv]
 have e : Rat.divInt (p.2 - p.1) (p.2 - p.1) = 1 := by
  have h0 : (p.2 - p.1) ≠ 0 := by omega
  rw [Rat.divInt_eq_div, Rat.div_def]
  exact Rat.mul_inv_cancel _ (by intro h; exact h0 (Rat.intCast_inj.1 (h.trans (show (0 : Rat) = ((0 : Int) : Rat) from rfl))))
 rw [e, Rat.mul_one, Rat.add_comm (pv _ _)]
theorem pres_step {i : Inst} (h : BdI i) {k : Nat} {p : Int × Int} (hp : (perL i)[k]? = some p) {y : Rat} (hy : 1 + y ≠ 0) :
 presQ i p.1 y * (1 + y) = (coupQ i k + (if k + 1 = (perL i).length then fv i.fn i.fd else 0)) + pv (1 + y) ((amtL i).drop (k + 1)) := by
 rw [pres_beg h hp, amt_drop (List.getElem?_eq_some_iff.1 hp).1, pv_step hy]
theorem pres_end {i : Inst} (h : BdI i) {k : Nat} {p : Int × Int} (hp : (perL i)[k]? = some p) (hk : k + 1 < (perL i).length) (y : Rat) : presQ i p.2 y = pv (1 + y) ((amtL i).drop (k + 1)) := by
 obtain ⟨q, hq⟩ : ∃ q, (perL i)[k + 1]? = some q := ⟨_, List.getElem?_eq_getElem hk⟩
 rw [per_next hp hq]
 exact pres_beg h hq y
theorem amt_dropN (i : Inst) : (amtL i).drop (perL i).length = [] := List.drop_eq_nil_of_le (by rw [amtL_len]; exact Nat.le_refl _)
theorem amt_par {i : Inst} {c : Rat} (hc : ∀ j, j < (perL i).length → coupQ i j = c) : ∀ (n k : Nat), k + n + 1 = (perL i).length → (amtL i).drop k = List.replicate n c ++ [c + fv i.fn i.fd]
 | 0, k, hk => by
   rw [amt_drop (by omega), if_pos (by omega), hc k (by omega), show k + 1 = (perL i).length from by omega, amt_dropN]
   rfl
 | n + 1, k, hk => by
   rw [amt_drop (by omega), if_neg (by omega), hc k (by omega), amt_par hc n (k + 1) (by omega), Rat.add_zero]
   rfl
theorem pres_par {i : Inst} (h : BdI i) {k : Nat} {p : Int × Int} (hp : (perL i)[k]? = some p) {c : Rat} (hc : ∀ j, j < (perL i).length → coupQ i j = c) :
 presQ i p.1 (c / fv i.fn i.fd) = fv i.fn i.fd := by
 have hk := (List.getElem?_eq_some_iff.1 hp).1
 have hc0 : 0 ≤ c := by rw [← hc k hk]; exact coupQ_nn h hk
 have hf := h.face_pos
 have hd : 0 ≤ c / fv i.fn i.fd := div_nonneg' hc0 hf
 rw [pres_beg h hp, amt_par hc ((perL i).length - k - 1) k (by omega)]
 exact pv_par (by grind) rfl (by grind) _
theorem left_ok {i : Inst} (h : BdI i) {k : Nat} {p : Int × Int} (hp : (perL i)[k]? = some p) {d : Int} (h1 : p.1 ≤ d) (h2 : d < p.2) : 0 < Rat.divInt (p.2 - d) (p.2 - p.1) ∧ Rat.divInt (p.2 - d) (p.2 - p.1) ≤ 1 := part_le (by omega) (by omega)
theorem by_pos {y t : Rat} (hy : 0 < 1 + y) (h0 : 0 < t) (h1 : t ≤ 1) : 0 < 1 + y * t := by
 rcases (Rat.le_total : 0 ≤ y ∨ y ≤ 0) with h | h
 ·have := Rat.mul_nonneg h (Rat.le_of_lt h0)
  grind
 ·have h3 : (-y) * t ≤ (-y) * 1 := Rat.mul_le_mul_of_nonneg_left h1 (by grind)
  grind
theorem paysN_get (i : Inst) (l : List (Int × Int)) {n k : Nat} (h : k < n) : (paysN i l n)[k]? = some (payAt i l k) := by
 unfold paysN
 rw [List.getElem?_map, List.getElem?_range h]
 rfl
theorem payAt_1 {i : Inst} {k : Nat} {p : Int × Int} (hp : (perL i)[k]? = some p) : (payAt i (perL i) k).1 = p.1 ∧ (payAt i (perL i) k).2.1 = p.2 := by
 unfold payAt
 rw [List.getD_eq_getElem?_getD, hp]
 exact ⟨rfl, rfl⟩
theorem pays_asc {i : Inst} (h : BdI i) : (paysN i (perL i) (perL i).length).Pairwise (fun a b => a.2.1 < b.2.1) := by
 refine List.pairwise_iff_getElem.2 fun j k hj hk hjk => ?_
 rw [paysN_len] at hj hk
 obtain ⟨p, hp⟩ : ∃ p, (perL i)[j]? = some p := ⟨_, List.getElem?_eq_getElem hj⟩
 obtain ⟨q, hq⟩ : ∃ q, (perL i)[k]? = some q := ⟨_, List.getElem?_eq_getElem hk⟩
 have e1 := (List.getElem?_eq_some_iff.1 (paysN_get i (perL i) hj)).2
 have e2 := (List.getElem?_eq_some_iff.1 (paysN_get i (perL i) hk)).2
 rw [e1, e2, (payAt_1 hp).2, (payAt_1 hq).2]
 exact ends_lt h (pers_get hp).2 (pers_get hq).2 (by omega)
theorem flowsOf_map (xs : List (Int × Int × Rat)) : flowsOf xs = (xs.filter fun x => !decide (x.2.2 = 0)).map fun x => (x.2.1, x.2.2) := by
 unfold flowsOf
 induction xs with
 | nil => rfl
 | cons x r ih =>
   by_cases h : x.2.2 = 0
   ·rw [List.filterMap_cons, if_pos h, List.filter_cons_of_neg (by simp [h]), ih]
   ·rw [List.filterMap_cons, if_neg h, List.filter_cons_of_pos (by simp [h]), List.map_cons, ih]
theorem flowsOf_sum (xs : List (Int × Int × Rat)) : rsum ((flowsOf xs).map Prod.snd) = rsum (xs.map fun x => x.2.2) := by
 unfold flowsOf
 induction xs with
 | nil => rfl
 | cons x r ih =>
   by_cases h : x.2.2 = 0
   ·rw [List.filterMap_cons, if_pos h, List.map_cons, rsum_cons, h, ih, Rat.zero_add]
   ·rw [List.filterMap_cons, if_neg h, List.map_cons, List.map_cons, rsum_cons, rsum_cons, ih]
theorem flows_asc {i : Inst} (h : BdI i) : (flowsL i).Pairwise (fun a b => a.1 < b.1) := by
 unfold flowsL
 rw [flowsOf_map, List.pairwise_map]
 exact (pays_asc h).filter _
theorem flows_mem {i : Inst} {f : Int × Rat} (hf : f ∈ flowsL i) : f.2 ≠ 0 ∧ f.2 ∈ amtL i ∧ ∃ p ∈ perL i, f.1 = p.2 := by
 unfold flowsL at hf
 rw [flowsOf_map, List.mem_map] at hf
 obtain ⟨x, hx, rfl⟩ := hf
 rw [List.mem_filter] at hx
 refine ⟨by simpa using hx.2, by unfold amtL; exact List.mem_map.2 ⟨x, hx.1, rfl⟩, ?_⟩
 obtain ⟨k, hk⟩ := List.getElem?_of_mem hx.1
 have hl : k < (perL i).length := by rw [← paysN_len i (perL i) (perL i).length]; exact (List.getElem?_eq_some_iff.1 hk).1
 rw [paysN_get i _ hl] at hk
 injection hk with hk
 obtain ⟨p, hp⟩ : ∃ p, (perL i)[k]? = some p := ⟨_, List.getElem?_eq_getElem hl⟩
 exact ⟨p, List.mem_of_getElem? hp, by rw [← hk]; exact (payAt_1 hp).2⟩
theorem flows_pos {i : Inst} (h : BdI i) {f : Int × Rat} (hf : f ∈ flowsL i) : 0 < f.2 := by
 obtain ⟨h0, hm, _⟩ := flows_mem hf
 have := amt_nn h _ hm
 grind
theorem flows_len (i : Inst) : (flowsL i).length ≤ (perL i).length := by
 unfold flowsL
 have := flowsOf_len (paysN i (perL i) (perL i).length)
 rw [paysN_len] at this
 exact this
theorem per_pos (i : Inst) : 0 < (perL i).length := by have := pers_len i.issued i.matures i.months; unfold perL; omega
theorem flows_last {i : Inst} (h : BdI i) : (flowsL i).getLast? = some (i.matures, coupQ i ((perL i).length - 1) + fv i.fn i.fd) := by
 obtain ⟨m, hm⟩ : ∃ m, (perL i).length = m + 1 := ⟨(perL i).length - 1, by have := per_pos i; omega⟩
 have hc := coupQ_nn h (k := m) (by omega)
 have hf := h.face_pos
 obtain ⟨p, hp⟩ : ∃ p, (perL i)[m]? = some p := ⟨_, List.getElem?_eq_getElem (by omega)⟩
 unfold flowsL
 rw [hm, paysN_succ, flowsOf_snoc]
 have e1 : (payAt i (perL i) m).2.2 = coupQ i m + fv i.fn i.fd := by rw [payAt_2, if_pos hm.symm]
 rw [if_neg (by rw [e1]; grind), List.getLast?_concat, e1, (payAt_1 hp).2, per_last hp hm.symm]
 rfl
theorem flows_ne {i : Inst} (h : BdI i) : flowsL i ≠ [] := by
 intro h0
 have := flows_last h
 rw [h0] at this
 cases this
theorem flows_sum (i : Inst) : rsum ((flowsL i).map Prod.snd) = rsum (amtL i) := by unfold flowsL amtL; exact flowsOf_sum _
theorem rsum_zero_if (f : Nat → Rat) (c : Rat) (N : Nat) : ∀ n, n ≤ N → rsum ((List.range n).map fun k => f k + (if k + 1 = N then c else 0)) = rsum ((List.range n).map f) + (if n = N ∧ 0 < N then c else 0)
 | 0, _ => by
   rw [if_neg (by omega)]
   show rsum [] = rsum [] + 0
   rw [Rat.add_zero]
 | n + 1, h => by
   rw [List.range_succ, List.map_append, List.map_append, rsum_append, rsum_append, rsum_zero_if f c N n (by omega), if_neg (by omega : ¬ (n = N ∧ 0 < N))]
   rw [List.map_cons, List.map_nil, List.map_cons, List.map_nil, rsum_cons, rsum_cons]
   by_cases hn : n + 1 = N
   ·rw [if_pos hn, if_pos ⟨hn, by omega⟩]; grind
   ·rw [if_neg hn, if_neg (by omega)]; grind
theorem amt_sum (i : Inst) : rsum (amtL i) = fv i.fn i.fd + rsum ((List.range (perL i).length).map (coupQ i)) := by
 have e : amtL i = (List.range (perL i).length).map fun k => coupQ i k + (if k + 1 = (perL i).length then fv i.fn i.fd else 0) := by
  unfold amtL paysN
  rw [List.map_map]
  rfl
 rw [e, rsum_zero_if _ _ _ _ (Nat.le_refl _), if_pos ⟨rfl, per_pos i⟩, Rat.add_comm]
def restL (i : Inst) (d : Int) : List (Int × Rat) → List (Int × Rat) := fun l => l.filter fun f => !decide (f.1 ≤ d)
def eb : Inst := ⟨⟨#[98]⟩, 2, ⟨#[85, 83, 68]⟩, 0, 19737, 20103, ⟨#[49, 48, 48, 48]⟩, ⟨#[]⟩, ⟨#[51]⟩, ⟨#[53, 48]⟩, 6, 3, ⟨#[]⟩, ⟨#[]⟩, ⟨#[]⟩⟩
theorem eb_f : fv eb.fn eb.fd = 1000 := by kernel_rfl
theorem eb_c : fv eb.cn eb.cd = mkRat 3 50 := by kernel_rfl
theorem eb_n {n d : ByteArray} (q : Rat) (h : fv n d = q) (h1 : n = I q.num) (h2 : d = dn q) (h3 : ndig n ≤ 40) (h4 : ndig d ≤ 40) : numchk n d = 0 := by
 have hc : CanQ n d := by
  unfold CanQ
  rw [h]
  exact ⟨h1, h2⟩
 unfold numchk
 rw [if_neg (fun x => x hc), if_neg (by omega)]
theorem eb_ok : BdI eb where
 sz := ⟨by decide, by decide, by decide, by decide, by decide, by decide, by decide, by decide, by decide⟩
 f1 := by decide
 f2 := by decide
 c1 := by decide
 c2 := by decide
 kd := rfl
 ok := { id := by decide, kind := by decide, cur := by decide, places := by decide, issued := by unfold okDay; decide, matures := .inr ⟨by decide, by unfold okDay; decide, by decide⟩, n1 := eb_n 1000 eb_f (by kernel_rfl) (by kernel_rfl) (by decide) (by decide), n2 := eb_n (mkRat 3 50) eb_c (by kernel_rfl) (by kernel_rfl) (by decide) (by decide), n3 := eb_n 0 (by kernel_rfl) (by kernel_rfl) (by kernel_rfl) (by decide) (by decide), plain := fun h => absurd rfl h, bond := fun _ => ⟨by decide, by decide, by decide, by decide, by decide, rfl, by decide⟩, fwd := fun h => absurd h (by decide) }
theorem d_issued : VDate 2024 1 15 ∧ dayOf 2024 1 15 = 19737 := by unfold VDate lenB leapB; decide
theorem d_jul : VDate 2024 7 15 ∧ dayOf 2024 7 15 = 19919 := by unfold VDate lenB leapB; decide
theorem d_mat : VDate 2025 1 15 ∧ dayOf 2025 1 15 = 20103 := by unfold VDate lenB leapB; decide
theorem d_apr : VDate 2024 4 15 ∧ dayOf 2024 4 15 = 19828 := by unfold VDate lenB leapB; decide
theorem eb_dk : dK 20103 = 24300 ∧ dD 20103 = 15 := dK_eq d_mat.1 d_mat.2
theorem eb_cuts : cuts 19737 20103 6 = [19919] := by
 have a1 : addM 20103 (-((1 : Nat) * (6 : Int))) = some 19919 := by
  unfold addM
  rw [eb_dk.1, eb_dk.2, if_pos (by decide), kDay_of]
  have e : dayOf (kY (24300 + -((1 : Nat) * (6 : Int)))) (kM (24300 + -((1 : Nat) * (6 : Int)))) (min 15 (kL (24300 + -((1 : Nat) * (6 : Int))))) = 19919 := by decide
  rw [e]
 have a2 : addM 20103 (-((2 : Nat) * (6 : Int))) = some 19737 := by
  unfold addM
  rw [eb_dk.1, eb_dk.2, if_pos (by decide), kDay_of]
  have e : dayOf (kY (24300 + -((2 : Nat) * (6 : Int)))) (kM (24300 + -((2 : Nat) * (6 : Int)))) (min 15 (kL (24300 + -((2 : Nat) * (6 : Int))))) = 19737 := by decide
  rw [e]
 have c1 : cutAt 19737 20103 6 1 = some 19919 := cutAt_of a1 (by decide)
 have c2 : cutAt 19737 20103 6 2 = none := cutAt_none (fun d hd => by
  have hd' : addM 20103 (-((2 : Nat) * (6 : Int))) = some d := hd
  rw [a2] at hd'
  injection hd' with hd'
  omega)
 have n0 := cuts_next (a := 19737) (b := 20103) (mo := 6) (by decide) (i := 0) (Nat.zero_le _)
 rw [show 0 + 1 = 1 from rfl, c1] at n0
 have hl : 1 ≤ (cuts 19737 20103 6).length := (List.getElem?_eq_some_iff.1 n0).1
 have n1 := cuts_next (a := 19737) (b := 20103) (mo := 6) (by decide) (i := 1) hl
 rw [show 1 + 1 = 2 from rfl, c2] at n1
 have hl2 : (cuts 19737 20103 6).length ≤ 1 := List.getElem?_eq_none_iff.1 n1
 generalize cuts 19737 20103 6 = l at n0 hl hl2
 match l, n0, hl2 with
 | [x], n0, _ => simp at n0; rw [n0]
theorem eb_per : perL eb = [(19737, 19919), (19919, 20103)] := by
 show pers 19737 20103 6 = _
 unfold pers ends
 rw [eb_cuts]
 rfl
theorem eb_few : (cuts eb.issued eb.matures eb.months).length ≤ 399 := by
 show (cuts 19737 20103 6).length ≤ 399
 rw [eb_cuts]
 decide
theorem eb_y1 : dcF 3 19737 19919 = mkRat 1 2 := by
 unfold dcF
 rw [if_neg (by decide), if_neg (by decide), if_neg (by decide), days30_eq d_issued.1 d_issued.2 d_jul.1 d_jul.2, show d30 3 2024 1 15 2024 7 15 = 180 from by decide]
 kernel_rfl
theorem eb_y2 : dcF 3 19919 20103 = mkRat 1 2 := by
 unfold dcF
 rw [if_neg (by decide), if_neg (by decide), if_neg (by decide), days30_eq d_jul.1 d_jul.2 d_mat.1 d_mat.2, show d30 3 2024 7 15 2025 1 15 = 180 from by decide]
 kernel_rfl
theorem eb_y3 : dcF 3 19737 19828 = mkRat 1 4 := by
 unfold dcF
 rw [if_neg (by decide), if_neg (by decide), if_neg (by decide), days30_eq d_issued.1 d_issued.2 d_apr.1 d_apr.2, show d30 3 2024 1 15 2024 4 15 = 90 from by decide]
 kernel_rfl
theorem eb_int {a b : Int} {q : Rat} (h : dcF 3 a b = q) : intQ eb a b = 1000 * mkRat 3 50 * q := by
 unfold intQ
 rw [eb_f, eb_c]
 show _ * dcF 3 a b = _
 rw [h]
theorem eb_p0 : (perL eb)[0]? = some (19737, 19919) := by rw [eb_per]; rfl
theorem eb_p1 : (perL eb)[1]? = some (19919, 20103) := by rw [eb_per]; rfl
theorem eb_len : (perL eb).length = 2 := by rw [eb_per]; rfl
theorem eb_c0 : coupQ eb 0 = 30 := by rw [coupQ_eq eb_p0, eb_int eb_y1]; kernel_rfl
theorem eb_c1 : coupQ eb 1 = 30 := by rw [coupQ_eq eb_p1, eb_int eb_y2]; kernel_rfl
theorem eb_acc : accQ eb 19828 = 15 := by rw [acc_per eb_ok eb_p0 (by decide) (by decide), eb_int eb_y3]; kernel_rfl
theorem eb_flows : flowsL eb = [(19919, 30), (20103, 1030)] := by
 unfold flowsL
 rw [eb_len, show (2 : Nat) = 0 + 1 + 1 from rfl, paysN_succ, paysN_succ, flowsOf_snoc, flowsOf_snoc]
 have p0 : payAt eb (perL eb) 0 = (19737, 19919, 30) := by
  have e := payAt_2 eb 0
  rw [eb_c0, eb_len, if_neg (by decide), Rat.add_zero] at e
  exact Prod.ext (payAt_1 eb_p0).1 (Prod.ext (payAt_1 eb_p0).2 e)
 have p1 : payAt eb (perL eb) 1 = (19919, 20103, 1030) := by
  have e := payAt_2 eb 1
  rw [eb_c1, eb_len, if_pos (by decide), eb_f] at e
  exact Prod.ext (payAt_1 eb_p1).1 (Prod.ext (payAt_1 eb_p1).2 (e.trans (by kernel_rfl)))
 rw [p0, p1, if_neg (by decide), if_neg (by decide)]
 rfl
theorem eb_cc : ∀ j, j < (perL eb).length → coupQ eb j = 30 := by
 intro j hj
 rw [eb_len] at hj
 rcases (show j = 0 ∨ j = 1 by omega) with rfl | rfl
 ·exact eb_c0
 ·exact eb_c1
theorem eb_rate : (30 : Rat) / fv eb.fn eb.fd = mkRat 3 100 := by rw [eb_f]; kernel_rfl
theorem eb_pres0 : presQ eb 19737 (mkRat 3 100) = 1000 := by
 have := pres_par eb_ok eb_p0 eb_cc
 rw [eb_rate, eb_f] at this
 exact this
theorem eb_pres1 : presQ eb 19919 (mkRat 3 100) = 1000 := by
 have := pres_par eb_ok eb_p1 eb_cc
 rw [eb_rate, eb_f] at this
 exact this
end Go.Proofs.YteennkgpeiafaaaGreatDoor
