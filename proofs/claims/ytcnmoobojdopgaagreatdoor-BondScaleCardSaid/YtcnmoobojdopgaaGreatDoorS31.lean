/-
  The walks of bond.interest, Periods. (Printed by gen_bd8.py.)
  The walks of bond.at, check. (Printed by gen_bd9.py.)
  The walks of bond.Dirty, Accrued. (Printed by gen_bd10.py.)
  The walks of bond.Accrued, payments. (Printed by gen_bd11.py.)
-/
import Derived.Test.YtcnmoobojdopgaaGreatDoorS28
import Derived.Test.YtcnmoobojdopgaaGreatDoorS30
import Derived.Test.YtcnmoobojdopgaaGreatDoorS26
import Derived.Test.YtcnmoobojdopgaaGreatDoorS25
set_option linter.unusedVariables false
set_option linter.unusedSimpArgs false
set_option maxHeartbeats 16000000
set_option maxRecDepth 100000
namespace Go.Proofs.YtcnmoobojdopgaaGreatDoor
open Go.RowKit Tr Go.Shelf
structure BdI (i : Inst) : Prop where
 sz : i.sized
 f1 : i.fn.size ≤ 20
 f2 : i.fd.size ≤ 19
 c1 : i.cn.size ≤ 20
 c2 : i.cd.size ≤ 19
 ok : i.ok
 kd : i.kind = 2
theorem BdI.bo {i : Inst} (h : BdI i) : bondOk i := h.ok.bond h.kd
theorem BdI.mat {i : Inst} (h : BdI i) : okDay i.matures ∧ i.issued < i.matures := by
 rcases h.ok.matures with ⟨_, h2, _⟩ | ⟨_, h2, h3⟩
 ·exact absurd h.kd h2
 ·exact ⟨h2, h3⟩
theorem BdI.mo {i : Inst} (h : BdI i) : 1 ≤ i.months ∧ i.months ≤ 12 := by
 have := h.bo.2.2.1
 unfold monthsL at this
 simp at this
 omega
theorem BdI.cnt {i : Inst} (h : BdI i) : 1 ≤ i.count ∧ i.count ≤ 5 := ⟨h.bo.2.2.2.1, h.bo.2.2.2.2.1⟩
noncomputable def perL (i : Inst) : List (Int × Int) := pers i.issued i.matures i.months
noncomputable def intQ (i : Inst) (a b : Int) : Rat := fv i.fn i.fd * fv i.cn i.cd * dcF i.count a b
theorem dcF_bd {c a b : Int} (ha : okDay a) (hb : okDay b) : BdQ (dcF c a b) 19 := by
 have h1 := days30_bd (c := c) ha.1 ha.2 hb.1 hb.2
 obtain ⟨a0, a1⟩ := ha
 obtain ⟨b0, b1⟩ := hb
 unfold dcF
 split
 ·exact yrs_diff_bd ⟨b0, b1⟩ ⟨a0, a1⟩
 ·split
  ·have e : ((b - a : Int) : Rat) / 365 = Rat.divInt (b - a) 365 := by rw [Rat.divInt_eq_div]; rfl
   rw [e]; exact (BdQ.divInt (k := 9) (by omega) (by omega) (by omega)).mono (by omega)
  ·split
   ·have e : ((b - a : Int) : Rat) / 360 = Rat.divInt (b - a) 360 := by rw [Rat.divInt_eq_div]; rfl
    rw [e]; exact (BdQ.divInt (k := 9) (by omega) (by omega) (by omega)).mono (by omega)
   ·have e : ((days30 c a b : Int) : Rat) / 360 = Rat.divInt (days30 c a b) 360 := by rw [Rat.divInt_eq_div]; rfl
    rw [e]; exact (BdQ.divInt (k := 9) (by omega) (by omega) (by omega)).mono (by omega)
theorem fc_bd {i : Inst} (h : BdI i) : BdQ (fv i.fn i.fd * fv i.cn i.cd) 40 := BdQ.mul (a := 20) (b := 20) (fv_bd _ _ h.f1 (by have := h.f2; omega)) (fv_bd _ _ h.c1 (by have := h.c2; omega))
theorem intQ_bd {i : Inst} (h : BdI i) {a b : Int} (ha : okDay a) (hb : okDay b) : BdQ (intQ i a b) 59 := BdQ.mul (a := 40) (b := 19) (fc_bd h) (dcF_bd ha hb)
structure BNV (w : World) (i : Inst) (nb : Nat) (part m1 rq : Rat)  (L : Array Bool) (W : World) (s17 s18 s19 s20 s21 s22 s23 : Value) : Prop where
 k0 : L.getD 0 false = true → s17 = .pointer (some ⟨w.heap.size, 6, none⟩)
 k1 : L.getD 1 false = true → s18 = .agg #[.string i.fn, .string i.fd]
 k2 : L.getD 2 false = true → s19 = .pointer (some ⟨w.heap.size, 8, none⟩)
 k3 : L.getD 3 false = true → s20 = .agg #[.string i.cn, .string i.cd]
 k4 : L.getD 4 false = true → s21 = .agg #[.string (I m1.num), .string (dn m1)]
 k5 : L.getD 5 false = true → s22 = .agg #[.string (I part.num), .string (dn part)]
 k6 : L.getD 6 false = true → s23 = .agg #[.string (I rq.num), .string (dn rq)]
 bx : BX w [(w.heap.size, .cells i.cells 27 (0, 0)), (nb, fobj part)] W
 o7 : L.getD 7 false = false → W.heap[w.heap.size + 1]? = some (fz)
 n7 : L.getD 7 false = true → W.heap[w.heap.size + 1]? = some (fobj rq)
structure BNJ (w : World) (i : Inst) (nb : Nat) (part m1 rq : Rat) (x0 x1 x2 x4 x5 x8 x9 x10 x11 x12 x13 x14 x15 x16 : Value) (L : Array Bool) (a : Act) (W : World) : Prop where
 sz : L.size = 8
 fr : ∃ s17 s18 s19 s20 s21 s22 s23 : Value, a = { tmps := #[x0, x1, x2, .pointer (some ⟨w.heap.size, 0, none⟩), x4, x5, .pointer (some ⟨w.heap.size + 1, 0, none⟩), .pointer (some ⟨nb, 0, none⟩), x8, x9, x10, x11, x12, x13, x14, x15, x16, s17, s18, s19, s20, s21, s22, s23], defers := [] } ∧ BNV w i nb part m1 rq  L W s17 s18 s19 s20 s21 s22 s23
theorem bInt_any (i : Inst) (h : BdI i) (a b : Int) (ha : okDay a) (hb : okDay b) (hab : a ≤ b) (w : World) (ht : Tabs w) :
 Calls Tryz.prog 55 #[i.enc, .int .i64 a, .int .i64 b] w fun e w' => e = .returned (fenc (intQ i a b)) ∧ Below w.heap.size w w' := by
 have HFR := hI (fun W (hW : Tabs W) => dcFrac_any i.count h.cnt.1 h.cnt.2 a b ha hb hab W hW)
 have s1 := h.f1
 have s2 := h.f2
 have s3 := h.c1
 have s4 := h.c2
 have C1 := fun W (hW : Tabs W) => fMul_any i.fn i.fd i.cn i.cd W (by omega) (by omega) (by omega) (by omega) hW
 have C2 := fun W (hW : Tabs W) => fMulQ (fc_bd h) (dcF_bd (c := i.count) ha hb) (by omega) (by omega) W hW
 have hq : fv i.fn i.fd * fv i.cn i.cd * dcF i.count a b = intQ i a b := rfl
 obtain ⟨rq, hrq⟩ : ∃ rq, intQ i a b = rq := ⟨_, rfl⟩
 obtain ⟨m1, hm1⟩ : ∃ m1, fv i.fn i.fd * fv i.cn i.cd = m1 := ⟨_, rfl⟩
 obtain ⟨part, hpart⟩ : ∃ part, dcF i.count a b = part := ⟨_, rfl⟩
 have HQ := hI hrq
 rw [hq, hrq, hm1, hpart] at C2
 rw [hm1] at C1
 rw [hpart] at HFR
 have HT := hI ht
 unfold fenc at C1 C2 HFR
 have D1 := hI C1
 have D2 := hI C2
 clear C1 C2 h ha hb hab ht hq hrq hm1 hpart s1 s2 s3 s4
 obtain ⟨W0, hW0', hB0, hz, k0, k1⟩ := box2 w (.cells i.cells 27) fz
 have hW0 := hW0'.symm
 have hg0 : BX w [(w.heap.size, .cells i.cells 27 (0, 0)), (w.heap.size + 1, fz)] W0 := ⟨hB0, fun x hx => by
  rcases List.mem_cons.1 hx with rfl | hx
  ·exact k0
  ·rcases List.mem_cons.1 hx with rfl | hx
   ·exact k1
   ·cases hx⟩
 have c9 := Lib.cell_of_heap k0 11
 simp [Inst.cells] at c9
 clear hB0 hz k0 k1 hW0'
 unfold Inst.enc Inst.cells at *
 go_enter Tryz.func55, Tryz.ntmps55
 go_wp2_with fail
 refine (HFR.out _ (HT.out.below hg0.1)).mono ?_
 rintro e w1 ⟨rfl, x1⟩
 have hg1 := hg0.below x1
 clear hg0 x1 hW0 c9
 go_wp2_with fail
 have hg2 := hg1.push (fobj part)
 obtain ⟨W2, hW2⟩ : ∃ W2, w1.alloc (fobj part) = W2 := ⟨_, rfl⟩
 have hnb : w1.heap.size ≠ w.heap.size + 1 := by have := hg1.lt 1 rfl; omega
 generalize w1.heap.size = nb at hg2 hnb ⊢
 rw [hW2] at hg2 ⊢
 have HM1 : Hid (∀ W, BX w [(w.heap.size, .cells i.cells 27 (0, 0)), (nb, fobj part)] W → Calls Tryz.prog 12 #[.agg #[.string i.fn, .string i.fd], .agg #[.string i.cn, .string i.cd]] W fun e w' => e = .returned (.agg #[.string (I m1.num), .string (dn m1)]) ∧ Below W.heap.size W w') := fun W hW => D1.out W (HT.out.below hW.1)
 have HM2 : Hid (∀ W, BX w [(w.heap.size, .cells i.cells 27 (0, 0)), (nb, fobj part)] W → Calls Tryz.prog 12 #[.agg #[.string (I m1.num), .string (dn m1)], .agg #[.string (I part.num), .string (dn part)]] W fun e w' => e = .returned (.agg #[.string (I rq.num), .string (dn rq)]) ∧ Below W.heap.size W w') := fun W hW => D2.out W (HT.out.below hW.1)
 have hg : BX w [(w.heap.size, .cells i.cells 27 (0, 0)), (nb, fobj part)] W2.drew := ⟨hg2.1.drew, fun z hz => by
  rcases List.mem_cons.1 hz with rfl | hz
  ·exact hg2.get 1 rfl
  ·rcases List.mem_cons.1 hz with rfl | hz
   ·exact hg2.get 0 rfl
   ·cases hz⟩
 have hko7 : W2.drew.heap[w.heap.size + 1]? = some fz := hg2.get 2 rfl
 clear hg1 hg2 hW2 D1 D2 HFR
 have mixed : Tryz.prog.follows .mixedOrders = true := by kernel_rfl
 refine wp_region_any mixed (wpAny_inv (BNJ w i nb part m1 rq _ _ _ _ _ _ _ _ _ _ _ _ _ _) ?stBN ?dnBN _ _ _ _ ⟨by simp, ⟨_, _, _, _, _, _, _, rfl, fun h => by simp at h, fun h => by simp at h, fun h => by simp at h, fun h => by simp at h, fun h => by simp at h, fun h => by simp at h, fun h => by simp at h, hg, fun _ => hko7, fun h => by simp at h⟩⟩ (by decide))
 case dnBN =>
  intro L a w' hj hr
  have all := all_on hr hj.sz (by kernel_rfl)
  obtain ⟨s17, s18, s19, s20, s21, s22, s23, rfl, hv⟩ := hj.fr
  have HF := hI (And.intro (hv.n7 (all 7 (by omega))) hv.bx.1)
  clear all hv hj hr
  go_wp2_with fail
  refine bodyPost_ret (results_cell_row rfl _ _ (w.heap.size + 1) _ _ (0, 0) _ rfl HF.out.1 Tryz.underlying25 rfl (by kernel_rfl)) rfl ?_
  exact ⟨by rw [HQ.out]; rfl, HF.out.2⟩
 case stBN =>
  intro L a w' hj i hi
  obtain ⟨hun, o, ho, hall⟩ := mem_ready.1 hi
  have hoff := getD_off hun
  have hlt := (Array.getElem?_eq_some_iff.1 ho).1
  simp at hlt
  obtain ⟨s17, s18, s19, s20, s21, s22, s23, rfl, hv⟩ := hj.fr
  have HV := hI hv
  have HJ := hI hj
  clear hv hj
  rcases (show i = 0 ∨ i = 1 ∨ i = 2 ∨ i = 3 ∨ i = 4 ∨ i = 5 ∨ i = 6 ∨ i = 7 from by omega) with rfl | rfl | rfl | rfl | rfl | rfl | rfl | rfl
  all_goals simp at ho
  all_goals subst ho
  rotate_left
  cases HV.out.k0 (Hq hall 0).out
  have hb := HV.out.bx.get 0 rfl; have c6 := Lib.cell_of_heap hb 6; have c7 := Lib.cell_of_heap hb 7
  simp [Inst.cells] at c6 c7
  rotate_left
  rotate_left
  cases HV.out.k2 (Hq hall 2).out
  have hb := HV.out.bx.get 0 rfl; have c6 := Lib.cell_of_heap hb 8; have c7 := Lib.cell_of_heap hb 9
  simp [Inst.cells] at c6 c7
  rotate_left
  ·cases HV.out.k1 (Hq hall 1).out
   cases HV.out.k3 (Hq hall 3).out
   clear hall hi
   refine wpOp_hid rfl fun K' HK => ?_
   go_simp
   refine (HM1.out _ HV.out.bx).mono ?_
   rintro e wn ⟨rfl, hbn⟩
   cases HV.out
   refine HK.out _ _ ⟨by simp [HJ.out.sz], ⟨_, _, _, _, _, _, _, rfl, ?_, ?_, ?_, ?_, fun _ => rfl, ?_, ?_, HV.out.bx.below hbn, fun h => bkeep hbn (HV.out.o7 (getD_df (by decide) h)), fun h => bkeep hbn (HV.out.n7 (getD_dn (by decide) h))⟩⟩
   all_goals exact Um (by assumption)
  have hb := HV.out.bx.get 1 rfl; have c6 := Lib.cell_of_heap hb 0; have c7 := Lib.cell_of_heap hb 1
  simp at c6 c7
  rotate_left
  ·cases HV.out.k4 (Hq hall 4).out
   cases HV.out.k5 (Hq hall 5).out
   clear hall hi
   refine wpOp_hid rfl fun K' HK => ?_
   go_simp
   refine (HM2.out _ HV.out.bx).mono ?_
   rintro e wn ⟨rfl, hbn⟩
   cases HV.out
   refine HK.out _ _ ⟨by simp [HJ.out.sz], ⟨_, _, _, _, _, _, _, rfl, ?_, ?_, ?_, ?_, ?_, ?_, fun _ => rfl, HV.out.bx.below hbn, fun h => bkeep hbn (HV.out.o7 (getD_df (by decide) h)), fun h => bkeep hbn (HV.out.n7 (getD_dn (by decide) h))⟩⟩
   all_goals exact Um (by assumption)
  ·cases HV.out.k6 (Hq hall 6).out
   clear hall hi
   have hko := HV.out.o7 hoff
   have m0 := Lib.cell_of_heap hko 0; have m1 := Lib.cell_of_heap hko 1; have f0 := Lib.frozen_of_heap hko 0; have f1 := Lib.frozen_of_heap hko 1
   simp at m0 m1 f0 f1
   refine wpOp_hid rfl fun K' HK => ?_
   go_simp
   cases HV.out
   refine HK.out _ _ ⟨by simp [HJ.out.sz], ⟨_, _, _, _, _, _, _, rfl, ?_, ?_, ?_, ?_, ?_, ?_, ?_, HV.out.bx.far (b := w.heap.size + 1) (by omega) (by simp <;> omega) _ _, fun h => (not_on h (getD_set_same hun)).elim, fun _ => set2 hko _ _⟩⟩
   all_goals exact Um (by assumption)
  all_goals
   clear hall hi
   refine wpOp_hid rfl fun K' HK => ?_
   go_simp
   cases HV.out
   refine HK.out _ _ ⟨by simp [HJ.out.sz], ?_⟩
   iterate 7 apply Exists.intro
   refine ⟨rfl, ?_⟩
   constructor
   all_goals first | exact Um (by assumption) | exact Un (by assumption) | exact Uf (by assumption) | exact fun _ => rfl | assumption
theorem ownsRow_base_le {W : World} {base base' : Nat} {e : TypeId} {size n : Nat} {v : Value} {xs : List Value} (h : W.ownsRow base e size v n xs) (hb : base' ≤ base) : W.ownsRow base' e size v n xs := by
 obtain ⟨h1, h2⟩ := h
 refine ⟨h1, ?_⟩
 rcases h2 with h2 | ⟨g, cap, cur, hv, hg, hr⟩
 ·exact .inl h2
 ·exact .inr ⟨g, cap, cur, hv, Nat.le_trans hb hg, hr⟩
theorem bPer_any (i : Inst) (h : BdI i) (w : World) (ht : Tabs w) : Calls Tryz.prog 31 #[i.enc] w (BuildPost w i.issued i.matures i.months) := by
 have HCK := hI (fun W (hW : Tabs W) => iCheck_any i h.sz W hW)
 have HOK := hI h.ok
 have HBU := hI (fun W => sBuild_any i.issued i.matures i.months h.ok.issued h.mat.1 h.mat.2 h.mo.1 (by have := h.mo.2; omega) W)
 have HK := hI h.kd
 have HT := hI ht
 clear h ht
 obtain ⟨Q, hQ⟩ : ∃ Q, BuildPost w i.issued i.matures i.months = Q := ⟨_, rfl⟩
 rw [hQ]
 have HQ := hI hQ
 clear hQ
 obtain ⟨W0, hW0, hB0, hz, k0⟩ := ibox i w
 have hg0 : BX w [(w.heap.size, .cells i.cells 27 (0, 0))] W0 := ⟨hB0, fun x hx => by
  rcases List.mem_cons.1 hx with rfl | hx
  ·exact k0
  ·cases hx⟩
 have c0 := Lib.cell_of_heap k0 0
 have c1 := Lib.cell_of_heap k0 1
 have c2 := Lib.cell_of_heap k0 2
 have c3 := Lib.cell_of_heap k0 3
 have c4 := Lib.cell_of_heap k0 4
 have c5 := Lib.cell_of_heap k0 5
 have c6 := Lib.cell_of_heap k0 6
 have c7 := Lib.cell_of_heap k0 7
 have c8 := Lib.cell_of_heap k0 8
 have c9 := Lib.cell_of_heap k0 9
 have c10 := Lib.cell_of_heap k0 10
 have c11 := Lib.cell_of_heap k0 11
 have c12 := Lib.cell_of_heap k0 12
 have c13 := Lib.cell_of_heap k0 13
 have c14 := Lib.cell_of_heap k0 14
 simp [Inst.cells] at c0 c1 c2 c3 c4 c5 c6 c7 c8 c9 c10 c11 c12 c13 c14
 clear hB0 hz k0
 unfold Inst.enc Inst.cells at *
 go_enter Tryz.func31, Tryz.ntmps31
 go_wp2_with fail
 refine (HCK.out _ (HT.out.below hg0.1)).mono ?_
 rintro e w1 ⟨n, rfl, hn, x1⟩
 obtain rfl : n = 0 := hn.2 HOK.out
 have hg1 := hg0.below x1
 clear hg0 x1 hW0 hn c0 c1 c2 c3 c4 c5 c6 c7 c8 c9 c10 c11 c12 c13 c14
 have k1 := hg1.get 0 rfl
 have c1 := Lib.cell_of_heap k1 1
 have c4 := Lib.cell_of_heap k1 4
 have c5 := Lib.cell_of_heap k1 5
 have c10 := Lib.cell_of_heap k1 10
 simp at c1 c4 c5 c10
 rw [HK.out] at c1
 clear k1
 go_wp2_with fail
 refine (HBU.out _).mono ?_
 rintro e w2 ⟨x2, hr⟩
 have hb2 := hg1.1.trans (x2.mono hg1.1.size)
 have hsz := hg1.1.size
 rcases hr with ⟨hl, rfl⟩ | ⟨hl, v, rfl, hrow⟩
 ·have HF := hI (And.intro hb2 hl)
  clear hb2 hl x2 hg1
  go_wp2_with fail
  rw [← HQ.out]
  exact ⟨HF.out.1, .inl ⟨HF.out.2, rfl⟩⟩
 ·have HF := hI (And.intro hb2 (And.intro hl (ownsRow_base_le hrow hsz)))
  clear hb2 hl x2 hg1 hrow
  go_wp2_with fail
  rw [← HQ.out]
  exact ⟨HF.out.1, .inr ⟨HF.out.2.1, v, rfl, HF.out.2.2⟩⟩
def RdP (W : World) (ad : Addr) (l : List (Int × Int)) : Prop := ad.block < W.heap.size ∧ ∀ (j : Nat) (p : Int × Int), l[j]? = some p → W.cell? (ad.add (j * 2)) = some (.int .i64 p.1) ∧ W.cell? ⟨(ad.add (j * 2)).block, (ad.add (j * 2)).off + 1, none⟩ = some (.int .i64 p.2)
theorem RdP.below {W W' : World} {ad : Addr} {l : List (Int × Int)} (h : RdP W ad l) (hb : Below W.heap.size W W') : RdP W' ad l := by
 obtain ⟨h1, h2⟩ := h
 refine ⟨Nat.lt_of_lt_of_le h1 hb.size, fun j p hp => ?_⟩
 obtain ⟨a, b⟩ := h2 j p hp
 exact ⟨(hb.cell (by rw [add_block]; exact h1)).trans a, (hb.cell (by show (ad.add (j * 2)).block < _; rw [add_block]; exact h1)).trans b⟩
theorem persV_get : ∀ (l : List (Int × Int)) (j : Nat) (p : Int × Int), l[j]? = some p → (persV l)[j * 2]? = some (.int .i64 p.1) ∧ (persV l)[j * 2 + 1]? = some (.int .i64 p.2)
 | [], j, p, h => by simp at h
 | x :: r, 0, p, h => by
   simp at h; subst h
   simp [persV, perV]
 | x :: r, j + 1, p, h => by
   simp at h
   have := persV_get r j p h
   simp only [persV, List.flatMap_cons, perV] at this ⊢
   rw [show (j + 1) * 2 = j * 2 + 2 from by omega]
   simpa using this
theorem RdP.own_box {W : World} {base : Nat} {v : Value} {l : List (Int × Int)} (h : W.ownsRow base 60 2 v l.length (persV l)) (hl : l ≠ []) : ∃ ad cap cur, v = .slice (some ad) l.length cap ∧ l.length ≤ cap ∧ base ≤ ad.block ∧ W.heap[ad.block]? = some (.cells cur 60 (0, 0)) ∧ ∀ W' : World, W'.heap[ad.block]? = some (.cells cur 60 (0, 0)) → RdP W' ad l := by
 rcases h.2 with ⟨_, h0⟩ | ⟨g, cap, cur, hv, hb, hg, hnc, hcm, _⟩
 ·exact absurd (List.eq_nil_of_length_eq_zero h0) hl
 ·subst hv
  refine ⟨⟨g, 0, none⟩, cap, cur, rfl, hnc, hb, hg, fun W' hW => ⟨(Array.getElem?_eq_some_iff.1 hW).1, fun j p hp => ?_⟩⟩
  have hc := h.cells (g := g) rfl
  obtain ⟨q0, q1⟩ := persV_get l j p hp
  have e0 := hc _ _ q0
  have e1 := hc _ _ q1
  rw [addr_add0] at e0 e1 ⊢
  have e : ∀ k, W'.cell? ⟨g, k, none⟩ = W.cell? ⟨g, k, none⟩ := fun k => by unfold World.cell?; rw [hW, hg]
  exact ⟨(e _).trans e0, (e _).trans e1⟩
def RdPo (W : World) (ad : Addr) (l : List (Int × Int)) : Prop := ∃ cur, W.heap[ad.block]? = some (.cells cur 60 (0, 0)) ∧ ∀ W' : World, W'.heap[ad.block]? = some (.cells cur 60 (0, 0)) → RdP W' ad l
theorem RdPo.rd {W : World} {ad : Addr} {l : List (Int × Int)} (h : RdPo W ad l) : RdP W ad l := by
 obtain ⟨cur, h1, h2⟩ := h
 exact h2 W h1
theorem pers_ne (a b mo : Int) : pers a b mo ≠ [] := fun h => by
 have := pers_len a b mo
 rw [h] at this
 simp at this
def inP (d : Int) (p : Int × Int) : Bool := decide (p.1 ≤ d) && decide (d < p.2)
def atZ (l : List (Int × Int)) (d : Int) : Int := match l.findIdx? (inP d) with
 | some k => (k : Int)
 | none => -1
theorem atZ_some {l : List (Int × Int)} {d : Int} {k : Nat} {p : Int × Int} (hp : l[k]? = some p) (h : inP d p = true) (hn : ∀ x ∈ l.take k, inP d x = false) : atZ l d = (k : Int) := by
 have hk := (List.getElem?_eq_some_iff.1 hp).1
 have e : l.findIdx? (inP d) = some k := by
  rw [List.findIdx?_eq_some_iff_getElem]
  refine ⟨hk, ?_, fun j hj => ?_⟩
  ·rw [(List.getElem?_eq_some_iff.1 hp).2]; exact h
  ·rw [Bool.not_eq_true]
   exact hn _ (List.mem_take_iff_getElem.2 ⟨j, by omega, rfl⟩)
 unfold atZ; rw [e]
theorem atZ_none {l : List (Int × Int)} {d : Int} (hn : ∀ x ∈ l, inP d x = false) : atZ l d = -1 := by
 have e : l.findIdx? (inP d) = none := List.findIdx?_eq_none_iff.2 hn
 unfold atZ; rw [e]
theorem atZ_cases (l : List (Int × Int)) (d : Int) : (∃ (k : Nat) (p : Int × Int), atZ l d = (k : Int) ∧ l[k]? = some p ∧ p.1 ≤ d ∧ d < p.2) ∨ atZ l d = -1 := by
 unfold atZ
 cases h : l.findIdx? (inP d) with
 | none => exact .inr rfl
 | some k =>
   rw [List.findIdx?_eq_some_iff_getElem] at h
   obtain ⟨hk, hp, _⟩ := h
   refine .inl ⟨k, l[k], rfl, List.getElem?_eq_getElem hk, ?_⟩
   unfold inP at hp
   simpa using hp
theorem bAt1_any (p : Int × Int) (d : Int) (b : Nat) (w : World) (hb : Boxed w b 22 (.int .i64 d)) : Calls Tryz.prog 110 #[.agg #[.int .i64 p.1, .int .i64 p.2], .pointer (some ⟨b, 0, none⟩)] w fun e w' => e = .returned (.bool (inP d p)) ∧ Below w.heap.size w w' := by
 obtain ⟨x, y⟩ := p
 have hc := hb.cell
 have hlt := hb.lt
 by_cases h : x ≤ d
 ·have t1 : decide (x ≤ d) = true := decide_eq_true h
  have HI : Hid (inP d (x, y) = decide (d < y)) := by show inP d (x, y) = _; unfold inP; rw [t1]; rfl
  clear h hb
  go_enter Tryz.func110, Tryz.ntmps110
  go_wp2_with fail
  go_ret
  exact ⟨by rw [HI.out]; rfl, (Below.refl _ w).alloc (Nat.le_refl _) _⟩
 ·have t1 : decide (x ≤ d) = false := decide_eq_false h
  have HI : Hid (inP d (x, y) = false) := by show inP d (x, y) = _; unfold inP; rw [t1]; rfl
  clear h hb
  go_enter Tryz.func110, Tryz.ntmps110
  go_wp2_with fail
  go_ret
  exact ⟨by rw [HI.out]; rfl, (Below.refl _ w).alloc (Nat.le_refl _) _⟩
theorem idxPer_any (ad : Addr) (l : List (Int × Int)) (N c : Nat) (d : Int) (b : Nat) (hN : l.length = N) (hm : N ≤ 1000000) (w : World) (hR : RdP w ad l) (hb : Boxed w b 22 (.int .i64 d)) :
 Calls Tryz.prog 85 #[.slice (some ad) N c, .func (.func 110) #[] #[.pointer (some ⟨b, 0, none⟩)]] w fun e w' => e = .returned (.int .i64 (atZ l d)) ∧ Below w.heap.size w w' := by
 have HR := hI hR
 have HNN := hI hN
 have HBX := hI hb
 clear hR hN hb
 go_enter Tryz.func85, Tryz.ntmps85
 go_wp2_with fail
 go_loopw [5, 8] (fun _ v wr => ∃ k : Nat, v = .int .i64 (k : Int) ∧ k ≤ N ∧ Hid (∀ x ∈ l.take k, inP d x = false) ∧ Hid (Below w.heap.size w wr)) (fun _ v _ => N - (intOf v).toNat)
 case atStart => exact ⟨0, rfl, by omega, fun p hp => by simp at hp, Below.refl _ _⟩
 case round =>
  obtain ⟨k, rfl, hk, HNO, HB⟩ := hrel
  rcases Nat.lt_or_ge k N with hlt | hge
  ·obtain ⟨p, hp⟩ : ∃ p, l[k]? = some p := ⟨_, List.getElem?_eq_getElem (by rw [HNN.out]; exact hlt)⟩
   have hcx : decide ((k : Int) < (N : Int)) = true := by simp; omega
   obtain ⟨c0, c1⟩ := (HR.out.below HB.out).2 k p hp
   have HTK : Hid (l.take (k + 1) = l.take k ++ [p]) := by show _ = _; rw [List.take_add_one, hp]; rfl
   have HP := hI hp
   have HCL := hI (bAt1_any p d b wr ((HB.out.block _ HBX.out.lt).trans HBX.out))
   clear hp
   go_wp2_with fail
   refine HCL.out.mono ?_
   rintro e w1 ⟨rfl, b1⟩
   have HB1 := hI (HB.out.trans (b1.mono HB.out.size))
   clear b1 HCL c0 c1
   cases hpp : inP d p
   case true =>
    have HF : Hid (atZ l d = (k : Int)) := atZ_some HP.out hpp HNO.out
    clear hpp
    go_wp2_with fail
    go_ret
    exact ⟨by rw [HF.out]; rfl, HB1.out⟩
   case false =>
    have HE := hI hpp
    clear hpp
    go_wp2_with fail
    go_roundw
    case rel =>
     refine ⟨k + 1, by go_num, by omega, fun x hx => ?_, HB1.out⟩
     rw [HTK.out, List.mem_append] at hx
     rcases hx with hx | hx
     ·exact HNO.out x hx
     ·rw [List.mem_singleton] at hx; subst hx; exact HE.out
    case measure => simp [intOf]; omega
  ·have hcx : decide ((k : Int) < (N : Int)) = false := by simp; omega
   have HF : Hid (atZ l d = -1) := atZ_none (fun x hx => HNO.out x (by rw [List.take_of_length_le (by rw [HNN.out]; exact hge)]; exact hx))
   go_wp2_with fail
   go_ret
   exact ⟨by rw [HF.out]; rfl, HB.out⟩
theorem bAt_any (ad : Addr) (l : List (Int × Int)) (N c : Nat) (d : Int) (hN : l.length = N) (hm : N ≤ 1000000) (w : World) (hR : RdP w ad l) :
 Calls Tryz.prog 52 #[.slice (some ad) N c, .int .i64 d] w fun e w' => e = .returned (.int .i64 (atZ l d)) ∧ Below w.heap.size w w' := by
 have b0 : Below w.heap.size w (w.alloc (.cells #[.int .i64 d] 22)) := (Below.refl _ w).alloc (Nat.le_refl _) _
 have HI := hI (idxPer_any ad l N c d w.heap.size hN hm (w.alloc (.cells #[.int .i64 d] 22)) (hR.below b0) (Boxed.new w _ _))
 have HB := hI b0
 clear hN hm hR b0
 go_enter Tryz.func52, Tryz.ntmps52
 go_wp2_with fail
 refine HI.out.mono ?_
 rintro e w1 ⟨rfl, b1⟩
 have HB1 := hI (HB.out.trans (b1.mono HB.out.size))
 clear b1
 go_wp2_with fail
 go_ret
 exact ⟨rfl, HB1.out⟩
theorem bChk1_yes (n d : ByteArray) (s1 : n.size ≤ 2000000) (s2 : d.size ≤ 2000000) (hc : CanQ n d) (w : World) (ht : Tabs w) : Calls Tryz.prog 109 #[.agg #[.string n, .string d]] w fun e w' => e = .returned (.bool false) ∧ Below w.heap.size w w' := by
 have b0 : Below w.heap.size w (w.alloc (.cells #[.string n, .string d] 25)) := (Below.refl _ w).alloc (Nat.le_refl _) _
 have H := hI (fCheck_yes n d (w.alloc (.cells #[.string n, .string d] 25)) s1 s2 hc (ht.below b0))
 have HB := hI b0
 clear s1 s2 hc ht b0
 go_enter Tryz.func109, Tryz.ntmps109
 go_wp2_with fail
 refine H.out.mono ?_
 rintro e w1 ⟨rfl, b1⟩
 have HB1 := hI (HB.out.trans (b1.mono HB.out.size))
 clear b1
 go_wp2_with fail
 go_ret
 exact ⟨rfl, HB1.out⟩
theorem bChk1_no (n d : ByteArray) (s1 : n.size ≤ 2000000) (s2 : d.size ≤ 2000000) (hc : ¬ CanQ n d) (w : World) (ht : Tabs w) : Calls Tryz.prog 109 #[.agg #[.string n, .string d]] w fun e w' => e = .returned (.bool true) ∧ Below w.heap.size w w' := by
 have b0 : Below w.heap.size w (w.alloc (.cells #[.string n, .string d] 25)) := (Below.refl _ w).alloc (Nat.le_refl _) _
 have H := hI (fCheck_no n d (w.alloc (.cells #[.string n, .string d] 25)) s1 s2 hc (ht.below b0))
 have HB := hI b0
 clear s1 s2 hc ht b0
 go_enter Tryz.func109, Tryz.ntmps109
 go_wp2_with fail
 refine H.out.mono ?_
 rintro e w1 ⟨rfl, b1⟩
 have HB1 := hI (HB.out.trans (b1.mono HB.out.size))
 clear b1
 go_wp2_with fail
 go_ret
 exact ⟨rfl, HB1.out⟩
theorem hasFrac_of (fv : Value) (k : Int) (w : World) (h : Calls Tryz.prog 168 #[fv, .func (.func 109) #[] #[]] w fun e w' => e = .returned (.int .i64 k) ∧ Below w.heap.size w w') : Calls Tryz.prog 108 #[fv, .func (.func 109) #[] #[]] w fun e w' => e = .returned (.bool (decide (0 ≤ k))) ∧ Below w.heap.size w w' := by
 have H := hI h
 clear h
 go_enter Tryz.func108, Tryz.ntmps108
 go_wp2_with fail
 refine H.out.mono ?_
 rintro e w1 ⟨rfl, b1⟩
 have HB1 := hI b1
 clear b1
 go_wp2_with fail
 go_ret
 exact ⟨rfl, HB1.out⟩
theorem hasFrac_one (g : Nat) (n d : ByteArray) (bad : Bool) (s1 : n.size ≤ 2000000) (s2 : d.size ≤ 2000000) (hc : bad = false ↔ CanQ n d) (w : World) (hg : w.heap[g]? = some (.cells #[.string n, .string d] 25 (0, 0))) (ht : Tabs w) :
 Calls Tryz.prog 108 #[.slice (some ⟨g, 0, none⟩) 1 1, .func (.func 109) #[] #[]] w fun e w' => e = .returned (.bool bad) ∧ Below w.heap.size w w' := by
 obtain ⟨c0, c1⟩ := cells2 hg
 cases bad with
 | false =>
   have H := hI (bChk1_yes n d s1 s2 (hc.1 rfl) w ht)
   clear hc s1 s2 ht hg
   refine hasFrac_of _ (-1) w ?_
   go_enter Tryz.func168, Tryz.ntmps168
   go_wp2_with fail
   go_loopw [8] (fun v wr => (v = .int .i64 0 ∧ wr = w) ∨ (v = .int .i64 1 ∧ Hid (Below w.heap.size w wr))) (fun v _ => 1 - (intOf v).toNat)
   case atStart => exact .inl ⟨rfl, rfl⟩
   case round =>
    rcases hrel with ⟨rfl, rfl⟩ | ⟨rfl, HB⟩
    ·go_wp2_with fail
     refine H.out.mono ?_
     rintro e w1 ⟨rfl, b1⟩
     have HB1 := hI b1
     clear b1
     go_wp2_with fail
     go_roundw
     case rel => exact .inr ⟨rfl, HB1.out⟩
     case measure => simp [intOf]
    ·go_wp2_with fail
     go_ret
     exact ⟨rfl, HB.out⟩
 | true =>
   have H := hI (bChk1_no n d s1 s2 (fun h => by have := hc.2 h; cases this) w ht)
   clear hc s1 s2 ht hg
   refine hasFrac_of _ 0 w ?_
   go_enter Tryz.func168, Tryz.ntmps168
   go_wp2_with fail
   go_loopw [8] (fun v wr => v = .int .i64 0 ∧ wr = w) (fun v _ => 0)
   case atStart => exact ⟨rfl, rfl⟩
   case round =>
    obtain ⟨rfl, rfl⟩ := hrel
    go_wp2_with fail
    refine H.out.mono ?_
    rintro e w1 ⟨rfl, b1⟩
    have HB1 := hI b1
    clear b1
    go_wp2_with fail
    go_ret
    exact ⟨rfl, HB1.out⟩
def CkPer (w : World) (i : Inst) (d : Int) (e : Ending) (w' : World) : Prop :=
 Below w.heap.size w w' ∧ ((400 ≤ (cuts i.issued i.matures i.months).length ∧ e = .returned (.tuple #[.slice none 0 0, .int .i64 4])) ∨ ((cuts i.issued i.matures i.months).length ≤ 399 ∧
  ((¬ okDay d ∧ e = .returned (.tuple #[.slice none 0 0, .int .i64 13])) ∨ (okDay d ∧ ∃ ad cap, e = .returned (.tuple #[.slice (some ad) (perL i).length cap, .int .i64 0]) ∧ w.heap.size ≤ ad.block ∧ RdPo w' ad (perL i)))))
theorem bChk_ok (i : Inst) (h : BdI i) (d : Int) (A : Option Addr) (n c : Nat) (w : World) (hf : ∀ W, Below w.heap.size w W → Calls Tryz.prog 108 #[.slice A n c, .func (.func 109) #[] #[]] W fun e w' => e = .returned (.bool false) ∧ Below W.heap.size W w') (ht : Tabs w) :
 Calls Tryz.prog 50 #[i.enc, .int .i64 d, .slice A n c] w (CkPer w i d) := by
 have HF := hI hf
 have HP := hI (fun W (hW : Tabs W) => bPer_any i h W hW)
 have HT := hI ht
 clear h ht hf
 obtain ⟨Q, hQ⟩ : ∃ Q, CkPer w i d = Q := ⟨_, rfl⟩
 rw [hQ]
 have HQ := hI hQ
 clear hQ
 obtain ⟨W0, hW0, hB0, hz, k0⟩ := ibox i w
 have HK0 : Hid (InstBox W0 w.heap.size i) := k0
 have HB0 := hI hB0
 clear hB0 hz k0
 unfold Inst.enc Inst.cells at *
 go_enter Tryz.func50, Tryz.ntmps50
 go_wp2_with fail
 refine (HF.out _ HB0.out).mono ?_
 rintro e w1 ⟨rfl, x1⟩
 have HB1 := hI (HB0.out.trans (x1.mono HB0.out.size))
 have k1 : InstBox w1 w.heap.size i := HK0.out.below x1
 obtain ⟨c0, c1, c2, c3, c4, c5, c6, c7, c8, c9, c10, c11, c12, c13, c14⟩ := cells15 k1
 clear x1 k1 hW0
 go_wp2_with fail
 refine (HP.out _ (HT.out.below HB1.out)).mono ?_
 rintro e w2 ⟨x2, hr⟩
 have HB2 := hI (HB1.out.trans (x2.mono HB1.out.size))
 rcases hr with ⟨hl, rfl⟩ | ⟨hl, v, rfl, hrow⟩
 ·have HL := hI hl
  clear hl x2 c0 c1 c2 c3 c4 c5 c6 c7 c8 c9 c10 c11 c12 c13 c14
  go_wp2_with fail
  rw [← HQ.out]
  exact ⟨HB2.out, .inl ⟨HL.out, rfl⟩⟩
 ·have HL := hI hl
  obtain ⟨ad, cap, cur, rfl, hc, hbk, hoo, hrr⟩ := RdP.own_box hrow (pers_ne _ _ _)
  have hrd : RdPo w2 ad (perL i) := ⟨cur, hoo, hrr⟩
  have HRD := hI (And.intro (Nat.le_trans HB1.out.size hbk) hrd)
  obtain ⟨N, hN⟩ : ∃ N, (pers i.issued i.matures i.months).length = N := ⟨_, rfl⟩
  have HN : Hid ((perL i).length = N) := hN
  rw [hN]
  clear hl x2 hrow hrd hc hbk hN hoo hrr c0 c1 c2 c3 c4 c5 c6 c7 c8 c9 c10 c11 c12 c13 c14
  by_cases hd : okDay d
  ·have t1 : decide (d < -25567) = false := decide_eq_false (by unfold okDay at hd; omega)
   have t2 : decide (84005 < d) = false := decide_eq_false (by unfold okDay at hd; omega)
   have HD := hI hd
   clear hd
   go_wp2_with fail
   rw [← HQ.out]
   exact ⟨HB2.out, .inr ⟨HL.out, .inr ⟨HD.out, ad, cap, by rw [HN.out]; rfl, HRD.out.1, HRD.out.2⟩⟩⟩
  ·have HD := hI hd
   by_cases hx : d < -25567
   ·have t1 : decide (d < -25567) = true := decide_eq_true hx
    clear hx hd
    go_wp2_with fail
    rw [← HQ.out]
    exact ⟨HB2.out, .inr ⟨HL.out, .inl ⟨HD.out, rfl⟩⟩⟩
   ·have t1 : decide (d < -25567) = false := decide_eq_false hx
    have t2 : decide (84005 < d) = true := decide_eq_true (by unfold okDay at hd; omega)
    clear hx hd
    go_wp2_with fail
    rw [← HQ.out]
    exact ⟨HB2.out, .inr ⟨HL.out, .inl ⟨HD.out, rfl⟩⟩⟩
theorem RdP.box {W : World} {ad : Addr} {l : List (Int × Int)} (h : RdP W ad l) : ∃ o : Obj, W.heap[ad.block]? = some o ∧ ∀ W' : World, W'.heap[ad.block]? = some o → RdP W' ad l := by
 obtain ⟨h1, h2⟩ := h
 refine ⟨_, Array.getElem?_eq_getElem h1, fun W' hW => ⟨(Array.getElem?_eq_some_iff.1 hW).1, fun j p hp => ?_⟩⟩
 obtain ⟨c0, c1⟩ := h2 j p hp
 have e : ∀ a : Addr, a.block = ad.block → W'.cell? a = W.cell? a := fun a ha => by
  unfold World.cell?
  rw [ha, hW, Array.getElem?_eq_getElem h1]
 exact ⟨(e _ (add_block _ _)).trans c0, (e _ (by show (ad.add (j * 2)).block = _; exact add_block _ _)).trans c1⟩
theorem pairs_mem {l : List Int} {p : Int × Int} (h : p ∈ pairs l) : p.1 ∈ l ∧ p.2 ∈ l := by
 obtain ⟨j, hj⟩ := List.getElem?_of_mem h
 rw [pairs_get] at hj
 split at hj
 ·rename_i x y hx hy
  injection hj with hj; subst hj
  exact ⟨List.mem_of_getElem? hx, List.mem_of_getElem? hy⟩
 ·cases hj
theorem pers_ok {a b mo : Int} (hmo : 1 ≤ mo) (h0 : -25567 ≤ b) (h1 : b ≤ 84005) (hab : a < b) {p : Int × Int} (h : p ∈ pers a b mo) : a ≤ p.1 ∧ p.1 ≤ b ∧ a ≤ p.2 ∧ p.2 ≤ b := by
 obtain ⟨m1, m2⟩ := pairs_mem h
 have hm : ∀ x ∈ ends a b mo, a ≤ x ∧ x ≤ b := by
  intro x hx
  unfold ends at hx
  rw [List.mem_cons, List.mem_append, List.mem_reverse, List.mem_singleton] at hx
  rcases hx with rfl | hx | rfl
  ·exact ⟨Int.le_refl _, Int.le_of_lt hab⟩
  ·have := cuts_lt hmo h0 h1 hx
   omega
  ·exact ⟨Int.le_of_lt hab, Int.le_refl _⟩
 exact ⟨(hm _ m1).1, (hm _ m1).2, (hm _ m2).1, (hm _ m2).2⟩
theorem BdI.per {i : Inst} (h : BdI i) {p : Int × Int} (hp : p ∈ perL i) : okDay p.1 ∧ okDay p.2 := by
 have h1 := pers_ok h.mo.1 h.mat.1.1 h.mat.1.2 h.mat.2 hp
 obtain ⟨a0, a1⟩ := h.ok.issued
 obtain ⟨b0, b1⟩ := h.mat.1
 exact ⟨⟨by omega, by omega⟩, ⟨by omega, by omega⟩⟩
noncomputable def accQ (i : Inst) (d : Int) : Rat := match (perL i).findIdx? (inP d) with
 | some k => intQ i ((perL i).getD k (0, 0)).1 d
 | none => 0
theorem accQ_some {i : Inst} {d : Int} {k : Nat} {p : Int × Int} (h : atZ (perL i) d = (k : Int)) (hp : (perL i)[k]? = some p) : accQ i d = intQ i p.1 d := by
 unfold atZ at h
 unfold accQ
 cases hx : (perL i).findIdx? (inP d) with
 | none => rw [hx] at h; simp only at h; omega
 | some j =>
   rw [hx] at h; simp only at h
   obtain rfl : j = k := by omega
   show intQ i ((perL i).getD j (0, 0)).1 d = _
   rw [List.getD_eq_getElem?_getD, hp]; rfl
theorem accQ_none {i : Inst} {d : Int} (h : atZ (perL i) d = -1) : accQ i d = 0 := by
 unfold atZ at h
 unfold accQ
 cases hx : (perL i).findIdx? (inP d) with
 | none => rfl
 | some j => rw [hx] at h; simp only at h; omega
def DirtyV (i : Inst) (d : Int) (q : Rat) (e : Ending) : Prop :=
 (400 ≤ (cuts i.issued i.matures i.months).length ∧ e = .returned (.tuple #[fenc 0, .int .i64 4])) ∨ ((cuts i.issued i.matures i.months).length ≤ 399 ∧
   ((¬ okDay d ∧ e = .returned (.tuple #[fenc 0, .int .i64 13])) ∨ (okDay d ∧ ((¬ (i.issued ≤ d ∧ d ≤ i.matures) ∧ e = .returned (.tuple #[fenc 0, .int .i64 24])) ∨ ((i.issued ≤ d ∧ d ≤ i.matures) ∧ e = .returned (.tuple #[fenc (q + accQ i d), .int .i64 0]))))))
def DirtyP (w : World) (i : Inst) (d : Int) (q : Rat) (e : Ending) (w' : World) : Prop := Below w.heap.size w w' ∧ DirtyV i d q e
structure DTV (w : World) (i : Inst) (fn fd : ByteArray) (ad : Addr) (ob : Obj) (N cap k : Nat) (x d : Int) (iq rq : Rat)  (L : Array Bool) (W : World) (s7 s39 s40 s41 s42 s43 s44 s45 s46 s47 s48 : Value) : Prop where
 k0 : L.getD 0 false = true → s39 = .agg #[.string fn, .string fd]
 k1 : L.getD 1 false = true → s40 = .agg #[.string i.id, .int .i64 i.kind, .string i.cur, .int .i64 i.places, .int .i64 i.issued, .int .i64 i.matures, .string i.fn, .string i.fd, .string i.cn, .string i.cd, .int .i64 i.months, .int .i64 i.count, .string i.other, .string i.sn, .string i.sd]
 k2 : L.getD 2 false = true → s41 = .slice (some ad) N cap
 k3 : L.getD 3 false = true → s42 = .int .i64 (k : Int)
 k4 : L.getD 4 false = true → s43 = .pointer (some (ad.add (k * 2)))
 k5 : L.getD 5 false = true → s44 = .pointer (some (ad.add (k * 2)))
 k6 : L.getD 6 false = true → s45 = .int .i64 x
 k7 : L.getD 7 false = true → s46 = .int .i64 d
 k8 : L.getD 8 false = true → s47 = .agg #[.string (I iq.num), .string (dn iq)]
 k9 : L.getD 9 false = true → s48 = .agg #[.string (I rq.num), .string (dn rq)]
 k11 : L.getD 11 false = true → s7 = .int .i64 0
 bx : BX w [(w.heap.size, .cells i.cells 27 (0, 0)), (w.heap.size + 1, .cells #[.string fn, .string fd] 25 (0, 0)), (ad.block, ob)] W
 o10 : L.getD 10 false = false → W.heap[w.heap.size + 2]? = some (fz)
 n10 : L.getD 10 false = true → W.heap[w.heap.size + 2]? = some (fobj rq)
structure DTJ (w : World) (i : Inst) (fn fd : ByteArray) (ad : Addr) (ob : Obj) (N cap k : Nat) (x d : Int) (iq rq : Rat) (x0 x2 x4 x9 x11 x12 x13 x14 x15 x16 x17 x18 x19 x20 x21 x22 x23 x24 x25 x26 x27 x28 x29 x30 x31 x32 x33 x34 x35 x36 x37 x38 x49 : Value) (L : Array Bool) (a : Act) (W : World) : Prop where
 sz : L.size = 12
 fr : ∃ s7 s39 s40 s41 s42 s43 s44 s45 s46 s47 s48 : Value, a = { tmps := #[x0, .int .i64 d, x2, .pointer (some ⟨w.heap.size, 0, none⟩), x4, .pointer (some ⟨w.heap.size + 1, 0, none⟩), .pointer (some ⟨w.heap.size + 2, 0, none⟩), s7, .slice (some ad) N cap, x9, .int .i64 (k : Int), x11, x12, x13, x14, x15, x16, x17, x18, x19, x20, x21, x22, x23, x24, x25, x26, x27, x28, x29, x30, x31, x32, x33, x34, x35, x36, x37, x38, s39, s40, s41, s42, s43, s44, s45, s46, s47, s48, x49], defers := [] } ∧ DTV w i fn fd ad ob N cap k x d iq rq  L W s7 s39 s40 s41 s42 s43 s44 s45 s46 s47 s48
theorem bDirty_any (i : Inst) (h : BdI i) (d : Int) (fn fd : ByteArray) (s1 : fn.size ≤ 900000) (s2 : fd.size ≤ 900000) (hb : BdQ (fv fn fd) 1000) (hc : CanQ fn fd) (w : World) (ht : Tabs w) :
 Calls Tryz.prog 16 #[i.enc, .int .i64 d, .agg #[.string fn, .string fd]] w (DirtyP w i d (fv fn fd)) := by
 have HH := hI h
 have HT := hI ht
 have HCQ : Hid (.agg #[.string fn, .string fd] = fenc (fv fn fd)) := by show _ = _; unfold fenc; rw [← hc.1, ← hc.2]
 have HBQ := hI hb
 have HSZ := hI (And.intro s1 s2)
 obtain ⟨Q, hQ⟩ : ∃ Q, DirtyP w i d (fv fn fd) = Q := ⟨_, rfl⟩
 rw [hQ]
 have HQ := hI hQ
 obtain ⟨W0, hW0', hB0, hz, k0, k1, k2⟩ := box3 w (.cells i.cells 27) (.cells #[.string fn, .string fd] 25) fz
 have hW0 := hW0'.symm
 have hg0 : BX w [(w.heap.size, .cells i.cells 27 (0, 0)), (w.heap.size + 1, .cells #[.string fn, .string fd] 25 (0, 0)), (w.heap.size + 2, fz)] W0 := ⟨hB0, fun x hx => by
  rcases List.mem_cons.1 hx with rfl | hx
  ·exact k0
  ·rcases List.mem_cons.1 hx with rfl | hx
   ·exact k1
   ·rcases List.mem_cons.1 hx with rfl | hx
    ·exact k2
    ·cases hx⟩
 have HG0 := hI hg0
 have HCK : Hid (∀ W, W = W0.alloc (.cells #[.string fn, .string fd] 25) → Calls Tryz.prog 50 #[i.enc, .int .i64 d, .slice (some ⟨W0.heap.size, 0, none⟩) 1 1] W (CkPer W i d)) := fun W hW => by
  subst hW
  have b1 : Below W0.heap.size W0 (W0.alloc (.cells #[.string fn, .string fd] 25)) := (Below.refl _ W0).alloc (Nat.le_refl _) _
  refine bChk_ok i h d _ 1 1 _ (fun W' hW' => hasFrac_one W0.heap.size fn fd false (by omega) (by omega) ⟨fun _ => hc, fun _ => rfl⟩ W' (bkeep hW' (heap_alloc_new W0 _)) (ht.below (hB0.trans ((b1.trans (hW'.mono b1.size)).mono hB0.size)))) (ht.below (hB0.trans (b1.mono hB0.size)))
 have c0 := Lib.cell_of_heap k0 0
 have c1 := Lib.cell_of_heap k0 1
 have c2 := Lib.cell_of_heap k0 2
 have c3 := Lib.cell_of_heap k0 3
 have c4 := Lib.cell_of_heap k0 4
 have c5 := Lib.cell_of_heap k0 5
 have c6 := Lib.cell_of_heap k0 6
 have c7 := Lib.cell_of_heap k0 7
 have c8 := Lib.cell_of_heap k0 8
 have c9 := Lib.cell_of_heap k0 9
 have c10 := Lib.cell_of_heap k0 10
 have c11 := Lib.cell_of_heap k0 11
 have c12 := Lib.cell_of_heap k0 12
 have c13 := Lib.cell_of_heap k0 13
 have c14 := Lib.cell_of_heap k0 14
 have q0 := Lib.cell_of_heap k1 0
 have q1 := Lib.cell_of_heap k1 1
 simp [Inst.cells] at c0 c1 c2 c3 c4 c5 c6 c7 c8 c9 c10 c11 c12 c13 c14 q0 q1
 clear hB0 hz k0 k1 k2 hW0' h hb hc s1 s2 ht hQ
 unfold Inst.enc Inst.cells at *
 go_enter Tryz.func16, Tryz.ntmps16
 go_wp2_with fail
 refine (HCK.out _ rfl).mono ?_
 rintro e w1 ⟨x1, hr⟩
 have hg1 := (hg0.below ((Below.refl _ W0).alloc (Nat.le_refl _) (.cells #[.string fn, .string fd] 25))).below x1
 have k2 := hg1.get 2 rfl
 have m0 := Lib.cell_of_heap k2 0
 have m1 := Lib.cell_of_heap k2 1
 have f0 := Lib.frozen_of_heap k2 0
 have f1 := Lib.frozen_of_heap k2 1
 have k1 := hg1.get 1 rfl
 have q0 := Lib.cell_of_heap k1 0
 have q1 := Lib.cell_of_heap k1 1
 have k0 := hg1.get 0 rfl
 have c0 := Lib.cell_of_heap k0 0
 have c1 := Lib.cell_of_heap k0 1
 have c2 := Lib.cell_of_heap k0 2
 have c3 := Lib.cell_of_heap k0 3
 have c4 := Lib.cell_of_heap k0 4
 have c5 := Lib.cell_of_heap k0 5
 have c6 := Lib.cell_of_heap k0 6
 have c7 := Lib.cell_of_heap k0 7
 have c8 := Lib.cell_of_heap k0 8
 have c9 := Lib.cell_of_heap k0 9
 have c10 := Lib.cell_of_heap k0 10
 have c11 := Lib.cell_of_heap k0 11
 have c12 := Lib.cell_of_heap k0 12
 have c13 := Lib.cell_of_heap k0 13
 have c14 := Lib.cell_of_heap k0 14
 simp [Inst.cells] at c0 c1 c2 c3 c4 c5 c6 c7 c8 c9 c10 c11 c12 c13 c14
 simp at m0 m1 f0 f1 q0 q1
 have HG1 := hI hg1
 have HK2 := hI k2
 have hzero : fenc 0 = .agg #[.string ⟨#[]⟩, .string ⟨#[]⟩] := fenc_zero
 have HZ := hI hzero
 have hsz : w.heap.size + 3 ≤ W0.heap.size := by rw [← hW0]; simp
 have HSW := hI hsz
 clear hg0 hg1 k0 k1 k2 hW0 hzero hsz
 rcases hr with ⟨hl, rfl⟩ | ⟨hl, ⟨hd, rfl⟩ | ⟨hd, ad, cap, rfl, hab, hrd⟩⟩
 ·have HL := hI hl
  clear hl x1
  go_wp2_with fail
  refine bodyPost_ret (results_row_tmp2 rfl _ _ (w.heap.size + 2) _ _ (0, 0) _ rfl (Go.Proofs.YtcnmoobojdopgaaGreatDoor.set2 HK2.out _ _) Tryz.underlying25 rfl (by kernel_rfl)) rfl ?_
  rw [← HQ.out]
  exact ⟨set2_below (by omega) HG1.out.1 _ _, .inl ⟨HL.out, by rw [HZ.out]; rfl⟩⟩
 ·have HL := hI hl
  have HD := hI hd
  clear hl hd x1
  go_wp2_with fail
  refine bodyPost_ret (results_row_tmp2 rfl _ _ (w.heap.size + 2) _ _ (0, 0) _ rfl (Go.Proofs.YtcnmoobojdopgaaGreatDoor.set2 HK2.out _ _) Tryz.underlying25 rfl (by kernel_rfl)) rfl ?_
  rw [← HQ.out]
  exact ⟨set2_below (by omega) HG1.out.1 _ _, .inr ⟨HL.out, .inl ⟨HD.out, by rw [HZ.out]; rfl⟩⟩⟩
 ·have HL := hI hl
  have HD := hI hd
  obtain ⟨N, hN⟩ : ∃ N, (perL i).length = N := ⟨_, rfl⟩
  have HN := hI hN
  rw [hN]
  replace hrd := hrd.rd
  have HRD := hI hrd
  have hab2 : w.heap.size + 3 < ad.block := by simp only [World.size_alloc] at hab; have := HSW.out; omega
  clear hl x1 hrd hN hab hd
  by_cases hlife : i.issued ≤ d ∧ d ≤ i.matures
  ·have t1 : decide (d < i.issued) = false := decide_eq_false (by omega)
   have t2 : decide (i.matures < d) = false := decide_eq_false (by omega)
   have t3 : decide (d > i.matures) = false := decide_eq_false (by omega)
   have HLF := hI hlife
   clear hlife
   have HNB : Hid (N ≤ 400) := by
    show N ≤ 400
    have h1 := pers_len i.issued i.matures i.months
    have h2 := HL.out
    have h3 := HN.out
    unfold perL at h3
    omega
   have HAT := hI (bAt_any ad (perL i) N cap d HN.out (by have := HNB.out; omega) w1 HRD.out)
   rcases atZ_cases (perL i) d with ⟨k, p, hk, hp, hpd, hdp⟩ | hk
   ·rw [hk] at HAT
    have HPK := hI hp
    have hkl : k < N := by rw [← HN.out]; exact (List.getElem?_eq_some_iff.1 hp).1
    have HPD := hI (And.intro hpd hdp)
    have HACC : Hid (accQ i d = intQ i p.1 d) := accQ_some hk hp
    have tk : decide ((0 : Int) ≤ (k : Int)) = true := decide_eq_true (by omega)
    have tk2 : decide ((k : Int) ≥ 0) = true := decide_eq_true (by omega)
    clear hk hp hpd hdp
    go_wp2_with fail
    refine HAT.out.mono ?_
    rintro e w2 ⟨rfl, x2⟩
    have hg2 := HG1.out.below x2
    have hrd2 := HRD.out.below x2
    obtain ⟨ob, hob, hbx⟩ := hrd2.box
    have HRB := hI hbx
    clear c0 c1 c2 c3 c4 c5 c6 c7 c8 c9 c10 c11 c12 c13 c14 q0 q1 m0 m1 f0 f1 x2 HAT
    go_wp2_with fail
    have hIN := fun W (hW : Tabs W) => bInt_any i HH.out p.1 d (HH.out.per (List.mem_of_getElem? HPK.out)).1 HD.out HPD.out.1 W hW
    have hbI := intQ_bd HH.out (HH.out.per (List.mem_of_getElem? HPK.out)).1 HD.out
    obtain ⟨iq, hiq⟩ : ∃ iq, intQ i p.1 d = iq := ⟨_, rfl⟩
    rw [hiq] at hIN hbI HACC
    have hAD := fun W (hW : Tabs W) => fAddQ HBQ.out hbI (by omega) (by omega) W hW
    obtain ⟨rq, hrq⟩ : ∃ rq, fv fn fd + iq = rq := ⟨_, rfl⟩
    have HRQ := hI hrq
    rw [hrq, ← HCQ.out] at hAD
    have HFIN : Hid (DirtyV i d (fv fn fd) (.returned (.tuple #[.agg #[.string (I rq.num), .string (dn rq)], .int .i64 0]))) := .inr ⟨HL.out, .inr ⟨HD.out, .inr ⟨HLF.out, by rw [HACC.out, HRQ.out]; rfl⟩⟩⟩
    unfold fenc at hIN hAD
    have HIN : Hid (∀ W, BX w [(w.heap.size, .cells i.cells 27 (0, 0)), (w.heap.size + 1, .cells #[.string fn, .string fd] 25 (0, 0)), (ad.block, ob)] W → Calls Tryz.prog 55 #[.agg #[.string i.id, .int .i64 i.kind, .string i.cur, .int .i64 i.places, .int .i64 i.issued, .int .i64 i.matures, .string i.fn, .string i.fd, .string i.cn, .string i.cd, .int .i64 i.months, .int .i64 i.count, .string i.other, .string i.sn, .string i.sd], .int .i64 p.1, .int .i64 d] W fun e w' => e = .returned (.agg #[.string (I iq.num), .string (dn iq)]) ∧ Below W.heap.size W w') := fun W hW => hIN W (HT.out.below hW.1)
    have HAD : Hid (∀ W, BX w [(w.heap.size, .cells i.cells 27 (0, 0)), (w.heap.size + 1, .cells #[.string fn, .string fd] 25 (0, 0)), (ad.block, ob)] W → Calls Tryz.prog 51 #[.agg #[.string fn, .string fd], .agg #[.string (I iq.num), .string (dn iq)]] W fun e w' => e = .returned (.agg #[.string (I rq.num), .string (dn rq)]) ∧ Below W.heap.size W w') := fun W hW => hAD W (HT.out.below hW.1)
    have hg : BX w [(w.heap.size, .cells i.cells 27 (0, 0)), (w.heap.size + 1, .cells #[.string fn, .string fd] 25 (0, 0)), (ad.block, ob)] w2.drew := ⟨hg2.1.drew, fun z hz => by
     rcases List.mem_cons.1 hz with rfl | hz
     ·exact hg2.get 0 rfl
     ·rcases List.mem_cons.1 hz with rfl | hz
      ·exact hg2.get 1 rfl
      ·rcases List.mem_cons.1 hz with rfl | hz
       ·exact hob
       ·cases hz⟩
    have hko10 : w2.drew.heap[w.heap.size + 2]? = some fz := hg2.get 2 rfl
    clear hg2 hob hbx hiq hrq hIN hAD hbI
    have mixed : Tryz.prog.follows .mixedOrders = true := by kernel_rfl
    refine wp_region_any mixed (wpAny_inv (DTJ w i fn fd ad ob N cap k p.1 d iq rq _ _ _ _ _ _ _ _ _ _ _ _ _ _ _ _ _ _ _ _ _ _ _ _ _ _ _ _ _ _ _ _ _) ?stDT ?dnDT _ _ _ _ ⟨by simp, ⟨_, _, _, _, _, _, _, _, _, _, _, rfl, fun h => by simp at h, fun h => by simp at h, fun h => by simp at h, fun h => by simp at h, fun h => by simp at h, fun h => by simp at h, fun h => by simp at h, fun h => by simp at h, fun h => by simp at h, fun h => by simp at h, fun h => by simp at h, hg, fun _ => hko10, fun h => by simp at h⟩⟩ (by decide))
    case dnDT =>
     intro L a w' hj hr
     have all := all_on hr hj.sz (by kernel_rfl)
     obtain ⟨s7, s39, s40, s41, s42, s43, s44, s45, s46, s47, s48, rfl, hv⟩ := hj.fr
     have HF := hI (And.intro (hv.n10 (all 10 (by omega))) (And.intro hv.bx.1 (hv.k11 (all 11 (by omega)))))
     clear all hv hj hr
     obtain ⟨_, _, e7⟩ := HF.out
     subst e7
     go_wp2_with fail
     refine bodyPost_ret (results_row_tmp2 rfl _ _ (w.heap.size + 2) _ _ (0, 0) _ rfl HF.out.1 Tryz.underlying25 rfl (by kernel_rfl)) rfl ?_
     rw [← HQ.out]
     exact ⟨HF.out.2.1, HFIN.out⟩
    case stDT =>
     intro L a w' hj i hi
     obtain ⟨hun, o, ho, hall⟩ := mem_ready.1 hi
     have hoff := getD_off hun
     have hlt := (Array.getElem?_eq_some_iff.1 ho).1
     simp at hlt
     obtain ⟨s7, s39, s40, s41, s42, s43, s44, s45, s46, s47, s48, rfl, hv⟩ := hj.fr
     have HV := hI hv
     have HJ := hI hj
     clear hv hj
     rcases (show i = 0 ∨ i = 1 ∨ i = 2 ∨ i = 3 ∨ i = 4 ∨ i = 5 ∨ i = 6 ∨ i = 7 ∨ i = 8 ∨ i = 9 ∨ i = 10 ∨ i = 11 from by omega) with rfl | rfl | rfl | rfl | rfl | rfl | rfl | rfl | rfl | rfl | rfl | rfl
     all_goals simp at ho
     all_goals subst ho
     have hb := HV.out.bx.get 1 rfl; have c6 := Lib.cell_of_heap hb 0; have c7 := Lib.cell_of_heap hb 1
     simp at c6 c7
     rotate_left
     have hb := HV.out.bx.get 0 rfl; have c0 := Lib.cell_of_heap hb 0; have c1 := Lib.cell_of_heap hb 1; have c2 := Lib.cell_of_heap hb 2; have c3 := Lib.cell_of_heap hb 3; have c4 := Lib.cell_of_heap hb 4; have c5 := Lib.cell_of_heap hb 5; have c6 := Lib.cell_of_heap hb 6; have c7 := Lib.cell_of_heap hb 7; have c8 := Lib.cell_of_heap hb 8; have c9 := Lib.cell_of_heap hb 9; have c10 := Lib.cell_of_heap hb 10; have c11 := Lib.cell_of_heap hb 11; have c12 := Lib.cell_of_heap hb 12; have c13 := Lib.cell_of_heap hb 13; have c14 := Lib.cell_of_heap hb 14
     simp [Inst.cells] at c0 c1 c2 c3 c4 c5 c6 c7 c8 c9 c10 c11 c12 c13 c14
     rotate_left
     rotate_left
     rotate_left
     cases HV.out.k2 (Hq hall 2).out
     cases HV.out.k3 (Hq hall 3).out
     have hki : (k : Int) < (N : Int) := by omega
     rotate_left
     cases HV.out.k4 (Hq hall 4).out
     rotate_left
     cases HV.out.k5 (Hq hall 5).out
     have hcc := (HRB.out _ (HV.out.bx.get 2 rfl)).2 k p HPK.out
     obtain ⟨cx, _⟩ := hcc
     rotate_left
     rotate_left
     ·cases HV.out.k1 (Hq hall 1).out
      cases HV.out.k6 (Hq hall 6).out
      cases HV.out.k7 (Hq hall 7).out
      clear hall hi
      refine wpOp_hid rfl fun K' HK => ?_
      go_simp
      refine (HIN.out _ HV.out.bx).mono ?_
      rintro e wn ⟨rfl, hbn⟩
      cases HV.out
      refine HK.out _ _ ⟨by simp [HJ.out.sz], ⟨_, _, _, _, _, _, _, _, _, _, _, rfl, ?_, ?_, ?_, ?_, ?_, ?_, ?_, ?_, fun _ => rfl, ?_, ?_, HV.out.bx.below hbn, fun h => bkeep hbn (HV.out.o10 (getD_df (by decide) h)), fun h => bkeep hbn (HV.out.n10 (getD_dn (by decide) h))⟩⟩
      all_goals exact Um (by assumption)
     ·cases HV.out.k0 (Hq hall 0).out
      cases HV.out.k8 (Hq hall 8).out
      clear hall hi
      refine wpOp_hid rfl fun K' HK => ?_
      go_simp
      refine (HAD.out _ HV.out.bx).mono ?_
      rintro e wn ⟨rfl, hbn⟩
      cases HV.out
      refine HK.out _ _ ⟨by simp [HJ.out.sz], ⟨_, _, _, _, _, _, _, _, _, _, _, rfl, ?_, ?_, ?_, ?_, ?_, ?_, ?_, ?_, ?_, fun _ => rfl, ?_, HV.out.bx.below hbn, fun h => bkeep hbn (HV.out.o10 (getD_df (by decide) h)), fun h => bkeep hbn (HV.out.n10 (getD_dn (by decide) h))⟩⟩
      all_goals exact Um (by assumption)
     ·cases HV.out.k9 (Hq hall 9).out
      clear hall hi
      have hko := HV.out.o10 hoff
      have m0 := Lib.cell_of_heap hko 0; have m1 := Lib.cell_of_heap hko 1; have f0 := Lib.frozen_of_heap hko 0; have f1 := Lib.frozen_of_heap hko 1
      simp at m0 m1 f0 f1
      refine wpOp_hid rfl fun K' HK => ?_
      go_simp
      cases HV.out
      refine HK.out _ _ ⟨by simp [HJ.out.sz], ⟨_, _, _, _, _, _, _, _, _, _, _, rfl, ?_, ?_, ?_, ?_, ?_, ?_, ?_, ?_, ?_, ?_, ?_, HV.out.bx.far (b := w.heap.size + 2) (by omega) (by simp <;> omega) _ _, fun h => (not_on h (getD_set_same hun)).elim, fun _ => set2 hko _ _⟩⟩
      all_goals exact Um (by assumption)
     rotate_left
     all_goals
      clear hall hi
      refine wpOp_hid rfl fun K' HK => ?_
      go_simp
      cases HV.out
      refine HK.out _ _ ⟨by simp [HJ.out.sz], ?_⟩
      iterate 11 apply Exists.intro
      refine ⟨rfl, ?_⟩
      constructor
      all_goals first | exact Um (by assumption) | exact Un (by assumption) | exact Uf (by assumption) | exact fun _ => rfl | assumption
   ·rw [hk] at HAT
    have HACC : Hid (accQ i d = 0) := accQ_none hk
    have HFIN : Hid (DirtyV i d (fv fn fd) (.returned (.tuple #[.agg #[.string fn, .string fd], .int .i64 0]))) := .inr ⟨HL.out, .inr ⟨HD.out, .inr ⟨HLF.out, by rw [HACC.out, Rat.add_zero, ← HCQ.out]⟩⟩⟩
    clear hk
    go_wp2_with fail
    refine HAT.out.mono ?_
    rintro e w2 ⟨rfl, x2⟩
    have hg2 := HG1.out.below x2
    have k2 := hg2.get 2 rfl
    have m0 := Lib.cell_of_heap k2 0
    have m1 := Lib.cell_of_heap k2 1
    have f0 := Lib.frozen_of_heap k2 0
    have f1 := Lib.frozen_of_heap k2 1
    have k1 := hg2.get 1 rfl
    have q0 := Lib.cell_of_heap k1 0
    have q1 := Lib.cell_of_heap k1 1
    simp at m0 m1 f0 f1 q0 q1
    have HG2 := hI hg2
    have HK3 := hI k2
    clear c0 c1 c2 c3 c4 c5 c6 c7 c8 c9 c10 c11 c12 c13 c14 x2 HAT k1 k2 hg2
    go_wp2_with fail
    refine bodyPost_ret (results_row_tmp2 rfl _ _ (w.heap.size + 2) _ _ (0, 0) _ rfl (Go.Proofs.YtcnmoobojdopgaaGreatDoor.set2 HK3.out _ _) Tryz.underlying25 rfl (by kernel_rfl)) rfl ?_
    rw [← HQ.out]
    exact ⟨set2_below (by omega) HG2.out.1 _ _, HFIN.out⟩
  ·have HLF := hI hlife
   have hx : decide (d < i.issued) = true ∨ (decide (d < i.issued) = false ∧ decide (d > i.matures) = true ∧ decide (i.matures < d) = true) := by
    rcases Int.lt_or_le d i.issued with h | h
    ·exact .inl (decide_eq_true h)
    ·exact .inr ⟨decide_eq_false (by omega), decide_eq_true (by omega), decide_eq_true (by omega)⟩
   clear hlife
   rcases hx with t1 | ⟨t1, t2, t3⟩
   all_goals
    go_wp2_with fail
    refine bodyPost_ret (results_row_tmp2 rfl _ _ (w.heap.size + 2) _ _ (0, 0) _ rfl (Go.Proofs.YtcnmoobojdopgaaGreatDoor.set2 HK2.out _ _) Tryz.underlying25 rfl (by kernel_rfl)) rfl ?_
    rw [← HQ.out]
    exact ⟨set2_below (by omega) HG1.out.1 _ _, .inr ⟨HL.out, .inr ⟨HD.out, .inl ⟨HLF.out, by rw [HZ.out]; rfl⟩⟩⟩⟩
attribute [local go_sem] Oper.semAt_some
theorem fv_zero : fv ⟨#[]⟩ ⟨#[]⟩ = 0 := by kernel_rfl
theorem canQ_nil : CanQ ⟨#[]⟩ ⟨#[]⟩ := by
 unfold CanQ
 rw [fv_zero]
 exact ⟨by rw [show (0 : Rat).num = 0 from rfl, ← zero_eq], by unfold dn; rw [show (0 : Rat).den = 1 from rfl, if_pos rfl]⟩
theorem bdq_zero : BdQ 0 1000 := BdQ.zero (by omega)
theorem bAccrued_any (i : Inst) (h : BdI i) (d : Int) (w : World) (ht : Tabs w) : Calls Tryz.prog 14 #[i.enc, .int .i64 d] w (DirtyP w i d 0) := by
 have HD := hI (fun W (hW : Tabs W) => bDirty_any i h d ⟨#[]⟩ ⟨#[]⟩ (Nat.zero_le _) (Nat.zero_le _) (by rw [fv_zero]; exact bdq_zero) canQ_nil W hW)
 rw [fv_zero] at HD
 have HT := hI ht
 obtain ⟨Q, hQ⟩ : ∃ Q, DirtyP w i d 0 = Q := ⟨_, rfl⟩
 rw [hQ]
 have HQ := hI hQ
 obtain ⟨W0, hW0', hB0, hz, k0, k1⟩ := box2 w (.cells i.cells 27) fz
 have hW0 := hW0'.symm
 have hg0 : BX w [(w.heap.size + 1, fz)] W0 := ⟨hB0, fun x hx => by
  rcases List.mem_cons.1 hx with rfl | hx
  ·exact k1
  ·cases hx⟩
 have c0 := Lib.cell_of_heap k0 0
 have c1 := Lib.cell_of_heap k0 1
 have c2 := Lib.cell_of_heap k0 2
 have c3 := Lib.cell_of_heap k0 3
 have c4 := Lib.cell_of_heap k0 4
 have c5 := Lib.cell_of_heap k0 5
 have c6 := Lib.cell_of_heap k0 6
 have c7 := Lib.cell_of_heap k0 7
 have c8 := Lib.cell_of_heap k0 8
 have c9 := Lib.cell_of_heap k0 9
 have c10 := Lib.cell_of_heap k0 10
 have c11 := Lib.cell_of_heap k0 11
 have c12 := Lib.cell_of_heap k0 12
 have c13 := Lib.cell_of_heap k0 13
 have c14 := Lib.cell_of_heap k0 14
 simp [Inst.cells] at c0 c1 c2 c3 c4 c5 c6 c7 c8 c9 c10 c11 c12 c13 c14
 clear hB0 hz k0 k1 hW0' h ht hQ
 unfold Inst.enc Inst.cells at *
 go_enter Tryz.func14, Tryz.ntmps14
 go_wp2_with fail
 refine (HD.out _ (HT.out.below hg0.1)).mono ?_
 rintro e w1 ⟨x1, hv⟩
 have hg1 := hg0.below x1
 have k2 := hg1.get 0 rfl
 have m0 := Lib.cell_of_heap k2 0
 have m1 := Lib.cell_of_heap k2 1
 have f0 := Lib.frozen_of_heap k2 0
 have f1 := Lib.frozen_of_heap k2 1
 simp at m0 m1 f0 f1
 have HG1 := hI hg1
 have HK2 := hI k2
 obtain ⟨q, n, rfl⟩ : ∃ (q : Rat) (n : Int), e = .returned (.tuple #[fenc q, .int .i64 n]) := by
  rcases hv with ⟨_, rfl⟩ | ⟨_, ⟨_, rfl⟩ | ⟨_, ⟨_, rfl⟩ | ⟨_, rfl⟩⟩⟩
  all_goals exact ⟨_, _, rfl⟩
 have HV := hI hv
 clear hg0 hg1 k2 x1 hW0 hv c0 c1 c2 c3 c4 c5 c6 c7 c8 c9 c10 c11 c12 c13 c14
 unfold fenc at HV ⊢
 go_wp2_with fail
 refine bodyPost_ret (results_row_tmp2 rfl _ _ (w.heap.size + 1) _ _ (0, 0) _ rfl (Go.Proofs.YtcnmoobojdopgaaGreatDoor.set2 HK2.out _ _) Tryz.underlying25 rfl (by kernel_rfl)) rfl ?_
 rw [← HQ.out]
 exact ⟨set2_below (by omega) HG1.out.1 _ _, HV.out⟩
noncomputable def payAt (i : Inst) (l : List (Int × Int)) (k : Nat) : Int × Int × Rat :=
 ((l.getD k (0, 0)).1, (l.getD k (0, 0)).2, intQ i (l.getD k (0, 0)).1 (l.getD k (0, 0)).2 + (if k + 1 = l.length then fv i.fn i.fd else 0))
noncomputable def paysN (i : Inst) (l : List (Int × Int)) (k : Nat) : List (Int × Int × Rat) := (List.range k).map (payAt i l)
theorem paysN_succ (i : Inst) (l : List (Int × Int)) (k : Nat) : paysN i l (k + 1) = paysN i l k ++ [payAt i l k] := by
 unfold paysN; rw [List.range_succ, List.map_append]; rfl
theorem paysN_len (i : Inst) (l : List (Int × Int)) (k : Nat) : (paysN i l k).length = k := by unfold paysN; simp
def encP (x : Int × Int × Rat) : Array Value := #[.agg #[.int .i64 x.1, .int .i64 x.2.1], fenc x.2.2]
def KpL (n₀ : Nat) (ks : List (Nat × Obj)) (W W' : World) : Prop := Below n₀ W W' ∧ ∀ x, x ∈ ks → W.heap[x.1]? = some x.2 → W'.heap[x.1]? = some x.2
theorem KpL.trans {n₀ : Nat} {ks : List (Nat × Obj)} {A B C : World} (h : KpL n₀ ks A B) (k : KpL n₀ ks B C) : KpL n₀ ks A C := ⟨h.1.trans k.1, fun x hx ha => k.2 x hx (h.2 x hx ha)⟩
theorem KpL.put {n₀ : Nat} {ks : List (Nat × Obj)} (hk : ∀ x, x ∈ ks → x.2.isCells = true) {W : World} {l : Nat} {o : Obj} (hn : n₀ ≤ l) (o' : Obj) (hl : W.heap[l]? = some o) (ho : o.isCells = false) : KpL n₀ ks W (W.putObj l o') := ⟨⟨rfl, rfl, rfl, by simp [World.putObj], fun k hk' => World.putObj_heap_other (by omega)⟩, fun x hx h => heap_put o' h (hk x hx) hl ho⟩
theorem KpL.below {n₀ : Nat} {ks : List (Nat × Obj)} {W W' : World} (hb : Below W.heap.size W W') (hn : n₀ ≤ W.heap.size) : KpL n₀ ks W W' := ⟨hb.mono hn, fun _ _ h => bkeep hb h⟩
theorem pers_lt {a b mo : Int} (hmo : 1 ≤ mo) (h0 : -25567 ≤ b) (h1 : b ≤ 84005) (hab : a < b) {j : Nat} {p : Int × Int} (h : (pers a b mo)[j]? = some p) : p.1 < p.2 := by
 unfold pers at h
 rw [pairs_get] at h
 split at h
 ·rename_i x y hx hy
  injection h with h; subst h
  obtain ⟨i1, e1⟩ := List.getElem?_eq_some_iff.1 hx
  obtain ⟨i2, e2⟩ := List.getElem?_eq_some_iff.1 hy
  have := List.pairwise_iff_getElem.1 (ends_asc hmo h0 h1 hab) j (j + 1) i1 i2 (by omega)
  rw [e1, e2] at this
  exact this
 ·cases h
theorem bPay_any (i : Inst) (v : Value) (w : World) (hv : ∃ A k c, v = .slice A k c) : Calls Tryz.prog 49 #[i.enc, v] w fun e w' => e = .returned (.func (.func 107) #[] #[.pointer (some ⟨w.heap.size + 1, 0, none⟩), .pointer (some ⟨w.heap.size, 0, none⟩)]) ∧ w' = (w.alloc (.cells i.cells 27)).alloc (.cells #[v] 55) := by
 obtain ⟨A, k, c, rfl⟩ := hv
 unfold Inst.enc Inst.cells at *
 go_enter Tryz.func49, Tryz.ntmps49
 go_wp2_with fail
 go_ret
 exact ⟨rfl, rfl⟩
theorem pay1_seq (n bl bi : Nat) (i : Inst) (h : BdI i) (ad : Addr) (N cap : Nat) (ob : Obj) (w : World) (hn : 1 ≤ n) (hN : (perL i).length = N) (hN4 : N ≤ 1000) (hN0 : 0 < N)
 (hi : w.heap[bi]? = some (.cells i.cells 27 (0, 0))) (hl : w.heap[bl]? = some (.cells #[.slice (some ad) N cap] 55 (0, 0))) (ho : w.heap[ad.block]? = some ob) (hR : ∀ W : World, W.heap[ad.block]? = some ob → RdP W ad (perL i)) (w₀ : World) (ht : Tabs w₀) (hb0 : Below w₀.heap.size w₀ w) :
 SeqStopsK Fence.wide n Tryz.prog 107 #[.pointer (some ⟨bl, 0, none⟩), .pointer (some ⟨bi, 0, none⟩)] encP (KpL w₀.heap.size [(bi, .cells i.cells 27 (0, 0)), (bl, .cells #[.slice (some ad) N cap] 55 (0, 0)), (ad.block, ob)]) (fun xs => xs = paysN i (perL i) N) (fun xs => xs.length ≤ N) (N + 1) w := by
 intro l J Jx W hW hJ hJx hY hJ0
 have HJ := hI hJ
 have HY := hI hY
 have HI : Hid (W.heap[bi]? = some (.cells i.cells 27 (0, 0))) := bkeep hW hi
 have HL : Hid (W.heap[bl]? = some (.cells #[.slice (some ad) N cap] 55 (0, 0))) := bkeep hW hl
 have HO : Hid (W.heap[ad.block]? = some ob) := bkeep hW ho
 have HT := hI ht
 have HT0 : Hid (Below w₀.heap.size w₀ W) := hb0.trans (hW.mono hb0.size)
 have HR := hI hR
 have HN := hI hN
 have HH := hI h
 have cl : W.cell? ⟨bl, 0, none⟩ = some (.slice (some ad) N cap) := Boxed.cell (show Boxed W bl 55 _ from HL.out)
 have HJ0 : Hid (J (paysN i (perL i) 0) W) := hJ0
 clear hJ hJx hY hW hi hl ho hR hN h hJ0 ht hb0
 refine callsIn_of_wp Tryz.func107 rfl trivial ?_ rfl
 simp only [Tryz.ntmps107, List.size_toArray, List.length_cons, List.length_nil, Nat.reduceAdd, Nat.reduceSub, Array.replicate_succ, Array.replicate_zero, List.push_toArray, List.append_toArray, List.nil_append, List.cons_append]
 gi_wp2
 gi_loopw [9] (fun v wr => ∃ k : Nat, v = .int .i64 (k : Int) ∧ k ≤ N ∧ Hid (wr.heap[bi]? = some (.cells i.cells 27 (0, 0))) ∧ Hid (wr.heap[bl]? = some (.cells #[.slice (some ad) N cap] 55 (0, 0))) ∧ Hid (wr.heap[ad.block]? = some ob) ∧ Hid (Below w₀.heap.size w₀ wr) ∧ Hid (J (paysN i (perL i) k) wr)) (fun v _ => N - (intOf v).toNat)
 case atStart => exact ⟨0, rfl, by omega, HI.out, HL.out, HO.out, HT0.out, HJ0.out⟩
 case round =>
  obtain ⟨k, rfl, hk, HI1, HL1, HO1, HT1, HJ1⟩ := hrel
  clear HI HL HO HT0 HJ0 cl
  rcases Nat.lt_or_ge k N with hlt | hge
  ·obtain ⟨p, hp⟩ : ∃ p, (perL i)[k]? = some p := ⟨_, List.getElem?_eq_getElem (by rw [HN.out]; exact hlt)⟩
   have hcx : decide ((k : Int) < (N : Int)) = true := decide_eq_true (by omega)
   obtain ⟨px, py⟩ := p
   obtain ⟨e0, e1⟩ := (HR.out wr HO1.out).2 k _ hp
   have hin := (HR.out wr HO1.out).1
   simp only at e0 e1
   have HP := hI hp
   have hmem := List.mem_of_getElem? hp
   have hpx := HH.out.per hmem
   simp only at hpx
   have hlt2 : px < py := pers_lt HH.out.mo.1 HH.out.mat.1.1 HH.out.mat.1.2 HH.out.mat.2 hp
   have HIN := hI (fun W (hW : Tabs W) => bInt_any i HH.out px py hpx.1 hpx.2 (Int.le_of_lt hlt2) W hW)
   have HBI := hI (intQ_bd HH.out hpx.1 hpx.2)
   obtain ⟨W1, hW1⟩ : ∃ W1, wr.alloc (.cells #[.int .i64 px, .int .i64 py] 60) = W1 := ⟨_, rfl⟩
   have b1 : Below wr.heap.size wr W1 := by rw [← hW1]; exact (Below.refl _ wr).alloc (Nat.le_refl _) _
   have HPB : Hid (PBox W1 wr.heap.size px py) := by rw [← hW1]; exact heap_alloc_new wr _
   have HB1 := hI b1
   have k0 : W1.heap[bi]? = some (.cells i.cells 27 (0, 0)) := bkeep b1 HI1.out
   obtain ⟨p0, p1⟩ := HPB.out.cells
   have c0 := Lib.cell_of_heap k0 0
   have c1 := Lib.cell_of_heap k0 1
   have c2 := Lib.cell_of_heap k0 2
   have c3 := Lib.cell_of_heap k0 3
   have c4 := Lib.cell_of_heap k0 4
   have c5 := Lib.cell_of_heap k0 5
   have c6 := Lib.cell_of_heap k0 6
   have c7 := Lib.cell_of_heap k0 7
   have c8 := Lib.cell_of_heap k0 8
   have c9 := Lib.cell_of_heap k0 9
   have c10 := Lib.cell_of_heap k0 10
   have c11 := Lib.cell_of_heap k0 11
   have c12 := Lib.cell_of_heap k0 12
   have c13 := Lib.cell_of_heap k0 13
   have c14 := Lib.cell_of_heap k0 14
   simp [Inst.cells] at c0 c1 c2 c3 c4 c5 c6 c7 c8 c9 c10 c11 c12 c13 c14
   clear k0 b1 hmem hpx hlt2 hp
   unfold Inst.enc at HIN
   simp only [Inst.cells] at HIN
   gi_wp2_with fail
   refine ⟨trivial, ?_⟩
   refine (callsIn_wide.2 (HIN.out W1 (HT.out.below (HT1.out.trans (HB1.out.mono HT1.out.size))))).mono ?_
   rintro e W2 ⟨rfl, x2⟩
   obtain ⟨iq, hiq⟩ : ∃ iq, intQ i px py = iq := ⟨_, rfl⟩
   have HIQ := hI hiq
   rw [hiq] at HBI ⊢
   have HB2 := hI (HB1.out.trans (x2.mono HB1.out.size))
   have HPB2 : Hid (PBox W2 wr.heap.size px py) := HPB.out.below x2
   obtain ⟨W3, hW3⟩ : ∃ W3, W2.alloc (fobj iq) = W3 := ⟨_, rfl⟩
   have b3 : Below W2.heap.size W2 W3 := by rw [← hW3]; exact (Below.refl _ W2).alloc (Nat.le_refl _) _
   have HF3 : Hid (W3.heap[W2.heap.size]? = some (fobj iq)) := by rw [← hW3]; exact heap_alloc_new W2 _
   have HB3 := hI (HB2.out.trans (b3.mono HB2.out.size))
   have HPB3 : Hid (PBox W3 wr.heap.size px py) := HPB2.out.below b3
   have hlt3 : wr.heap.size < W2.heap.size := HPB2.out.lt
   have i3 : W3.heap[bi]? = some (.cells i.cells 27 (0, 0)) := bkeep HB3.out HI1.out
   have l3 : Boxed W3 bl 55 (.slice (some ad) N cap) := bkeep HB3.out HL1.out
   have cl3 := l3.cell
   obtain ⟨p0, p1⟩ := HPB3.out.cells
   have q0 := Lib.cell_of_heap HF3.out 0
   have q1 := Lib.cell_of_heap HF3.out 1
   have c6 := Lib.cell_of_heap i3 6
   have c7 := Lib.cell_of_heap i3 7
   simp [Inst.cells] at c6 c7 q0 q1
   clear x2 b3 hiq HPB HPB2 hW1 i3 l3
   unfold fenc
   by_cases hlast : k + 1 = N
   ·have t1 : decide ((k : Int) = (N : Int) - 1) = true := decide_eq_true (by omega)
    have t2 : ((k : Int) == (N : Int) - 1) = true := by simpa using t1
    have hAD := fun W (hW : Tabs W) => fAdd_any (I iq.num) (dn iq) i.fn i.fd W (Nat.le_trans (HBI.out.num) (by omega)) (Nat.le_trans (HBI.out.dn) (by omega)) (by have := HH.out.f1; omega) (by have := HH.out.f2; omega) hW
    rw [fv_enc] at hAD
    obtain ⟨am, ham⟩ : ∃ am, iq + fv i.fn i.fd = am := ⟨_, rfl⟩
    rw [ham] at hAD
    unfold fenc at hAD
    have HAD := hI hAD
    have HPA : Hid (payAt i (perL i) k = (px, py, am)) := by
     show payAt i (perL i) k = _
     unfold payAt
     rw [List.getD_eq_getElem?_getD, HP.out, HN.out, if_pos hlast]
     show (px, py, intQ i px py + fv i.fn i.fd) = _
     rw [HIQ.out, ham]
    clear hAD ham
    gi_wp2_with fail
    refine ⟨trivial, ?_⟩
    refine (callsIn_wide.2 (HAD.out W3 (HT.out.below (HT1.out.trans (HB3.out.mono HT1.out.size))))).mono ?_
    rintro e W4 ⟨rfl, x4⟩
    have HB4 := hI (HB3.out.trans (x4.mono HB3.out.size))
    have hf4 := bkeep x4 HF3.out
    have HPB4 : Hid (PBox W4 wr.heap.size px py) := HPB3.out.below x4
    have m0 := Lib.cell_of_heap hf4 0
    have m1 := Lib.cell_of_heap hf4 1
    have g0 := Lib.frozen_of_heap hf4 0
    have g1 := Lib.frozen_of_heap hf4 1
    simp at m0 m1 g0 g1
    obtain ⟨W5, hW5⟩ : ∃ W5, (W4.setCell ⟨W2.heap.size, 0, none⟩ (.string (I am.num))).setCell ⟨W2.heap.size, 1, none⟩ (.string (dn am)) = W5 := ⟨_, rfl⟩
    have hf5 : W5.heap[W2.heap.size]? = some (fobj am) := by rw [← hW5]; exact Go.Proofs.YtcnmoobojdopgaaGreatDoor.set2 hf4 _ _
    have HPB5 : Hid (PBox W5 wr.heap.size px py) := by rw [← hW5]; exact (set2_far (by omega) _ _).trans HPB4.out
    have HB5 : Hid (Below wr.heap.size wr W5) := by rw [← hW5]; exact set2_below (by omega) HB4.out _ _
    obtain ⟨p0, p1⟩ := HPB5.out.cells
    have q0 := Lib.cell_of_heap hf5 0
    have q1 := Lib.cell_of_heap hf5 1
    simp at q0 q1
    have HJ5 : Hid (J (paysN i (perL i) k) W5) := HJ.out _ _ _ none HJ1.out (Lib.grownBy_below (World.grownBy.refl _ _) HB5.out) (fun r e => by cases e)
    obtain ⟨fn, tmps, assign, body, hy, hR⟩ := HY.out (paysN i (perL i) k) (px, py, am) W5 HJ5.out (by rw [paysN_len]; omega)
    simp only [encP, fenc] at hy
    have HRD := hI hR
    clear hR hf4 hf5 x4
    gi_wp2
    refine HRD.out.mono ?_
    rintro e W6 (⟨rfl, hj6, hk6⟩ | ⟨rfl, hjx⟩)
    ·have HI6 : Hid (W6.heap[bi]? = some (.cells i.cells 27 (0, 0))) := hk6.2 (bi, .cells i.cells 27 (0, 0)) (by simp) (bkeep HB5.out HI1.out)
     have HL6 : Hid (W6.heap[bl]? = some (.cells #[.slice (some ad) N cap] 55 (0, 0))) := hk6.2 (bl, .cells #[.slice (some ad) N cap] 55 (0, 0)) (by simp) (bkeep HB5.out HL1.out)
     have HO6 : Hid (W6.heap[ad.block]? = some ob) := hk6.2 (ad.block, ob) (by simp) (bkeep HB5.out HO1.out)
     have HT6 : Hid (Below w₀.heap.size w₀ W6) := (HT1.out.trans (HB5.out.mono HT1.out.size)).trans hk6.1
     have HJ6 : Hid (J (paysN i (perL i) (k + 1)) W6) := by
      show J _ W6
      rw [paysN_succ, HPA.out]; exact hj6
     clear hj6 hk6 p0 p1 q0 q1 c6 c7 cl3 hW3
     gi_wp2
     go_roundw
     case rel => exact ⟨k + 1, by go_num, by omega, HI6.out, HL6.out, HO6.out, HT6.out, HJ6.out⟩
     case measure => simp [intOf]; omega
    ·have HQ : Hid ((paysN i (perL i) k ++ [(px, py, am)]).length ≤ N) := by show _ ≤ _; rw [List.length_append, paysN_len]; simp; omega
     gi_wp2
     refine bodyPost_ret (results_none rfl _ _ _) rfl ?_
     exact ⟨⟨_, rfl⟩, .inr ⟨_, HQ.out, hjx⟩⟩
   ·have t1 : decide ((k : Int) = (N : Int) - 1) = false := decide_eq_false (by omega)
    have t2 : ((k : Int) == (N : Int) - 1) = false := by simpa using t1
    have HPA : Hid (payAt i (perL i) k = (px, py, iq)) := by
     show payAt i (perL i) k = _
     unfold payAt
     rw [List.getD_eq_getElem?_getD, HP.out, HN.out, if_neg hlast]
     show (px, py, intQ i px py + 0) = _
     rw [HIQ.out, Rat.add_zero]
    have HJ3 : Hid (J (paysN i (perL i) k) W3) := HJ.out _ _ _ none HJ1.out (Lib.grownBy_below (World.grownBy.refl _ _) HB3.out) (fun r e => by cases e)
    obtain ⟨fn, tmps, assign, body, hy, hR⟩ := HY.out (paysN i (perL i) k) (px, py, iq) W3 HJ3.out (by rw [paysN_len]; omega)
    simp only [encP, fenc] at hy
    have HRD := hI hR
    clear hR
    gi_wp2
    refine HRD.out.mono ?_
    rintro e W6 (⟨rfl, hj6, hk6⟩ | ⟨rfl, hjx⟩)
    ·have HI6 : Hid (W6.heap[bi]? = some (.cells i.cells 27 (0, 0))) := hk6.2 (bi, .cells i.cells 27 (0, 0)) (by simp) (bkeep HB3.out HI1.out)
     have HL6 : Hid (W6.heap[bl]? = some (.cells #[.slice (some ad) N cap] 55 (0, 0))) := hk6.2 (bl, .cells #[.slice (some ad) N cap] 55 (0, 0)) (by simp) (bkeep HB3.out HL1.out)
     have HO6 : Hid (W6.heap[ad.block]? = some ob) := hk6.2 (ad.block, ob) (by simp) (bkeep HB3.out HO1.out)
     have HT6 : Hid (Below w₀.heap.size w₀ W6) := (HT1.out.trans (HB3.out.mono HT1.out.size)).trans hk6.1
     have HJ6 : Hid (J (paysN i (perL i) (k + 1)) W6) := by
      show J _ W6
      rw [paysN_succ, HPA.out]; exact hj6
     clear hj6 hk6 p0 p1 q0 q1 c6 c7 cl3 hW3
     gi_wp2
     go_roundw
     case rel => exact ⟨k + 1, by go_num, by omega, HI6.out, HL6.out, HO6.out, HT6.out, HJ6.out⟩
     case measure => simp [intOf]; omega
    ·have HQ : Hid ((paysN i (perL i) k ++ [(px, py, iq)]).length ≤ N) := by show _ ≤ _; rw [List.length_append, paysN_len]; simp; omega
     gi_wp2
     refine bodyPost_ret (results_none rfl _ _ _) rfl ?_
     exact ⟨⟨_, rfl⟩, .inr ⟨_, HQ.out, hjx⟩⟩
  ·have hcx : decide ((k : Int) < (N : Int)) = false := decide_eq_false (by omega)
   obtain rfl : k = N := by omega
   have hf : J (paysN i (perL i) k) wr := HJ1.out
   gi_wp2
   go_end0
   exact ⟨⟨_, rfl⟩, .inl (by first | exact hf | exact ⟨_, rfl, hf⟩)⟩
end Go.Proofs.YtcnmoobojdopgaaGreatDoor
