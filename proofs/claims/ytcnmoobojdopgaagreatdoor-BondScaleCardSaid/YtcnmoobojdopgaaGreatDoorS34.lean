/-
  The walk of bond.Coupon. (Printed by gen_bd16.py.)
  Plain facts of bonds: periods, interest, flows, present values.
  Plain facts of the flows of bonds; of a bond with the double face.
  The bond of the chapter's example, plainly: periods, flows, interest, present values.
-/
import Derived.Test.YtcnmoobojdopgaaGreatDoorS33
set_option linter.unusedVariables false
set_option linter.unusedSimpArgs false
set_option maxHeartbeats 16000000
set_option maxRecDepth 100000
namespace Go.Proofs.YtcnmoobojdopgaaGreatDoor
open Go.RowKit Tr Go.Shelf
attribute [local go_sem] Oper.semAt_some
end Go.Proofs.YtcnmoobojdopgaaGreatDoor
namespace Go.Proofs.YtcnmoobojdopgaaGreatDoor
open Go.RowKit Tr Go.Shelf
theorem numchk_can {n d : ByteArray} (h : numchk n d = 0) : CanQ n d := by
 refine Classical.byContradiction fun hc => ?_
 unfold numchk at h
 rw [if_pos hc] at h
 exact absurd h (by decide)
theorem canQ_vl {n d : ByteArray} (h : CanQ n d) : vl n = (fv n d).num := by
 have h1 := congrArg vl h.1
 rw [vl_I] at h1
 exact h1
theorem BdI.fQ {i : Inst} (h : BdI i) : CanQ i.fn i.fd := numchk_can h.ok.n1
theorem BdI.cQ {i : Inst} (h : BdI i) : CanQ i.cn i.cd := numchk_can h.ok.n2
theorem BdI.face_pos {i : Inst} (h : BdI i) : 0 < fv i.fn i.fd := num_pos'.1 (by rw [← canQ_vl h.fQ]; exact h.bo.1)
theorem BdI.coup_nn {i : Inst} (h : BdI i) : 0 ≤ fv i.cn i.cd := Rat.num_nonneg.1 (by rw [← canQ_vl h.cQ]; exact h.bo.2.1)
theorem BdI.fc_nn {i : Inst} (h : BdI i) : 0 ≤ fv i.fn i.fd * fv i.cn i.cd := Rat.mul_nonneg (Rat.le_of_lt h.face_pos) h.coup_nn
theorem pers_get {a b mo : Int} {k : Nat} {p : Int × Int} (h : (pers a b mo)[k]? = some p) : (ends a b mo)[k]? = some p.1 ∧ (ends a b mo)[k + 1]? = some p.2 := by
 unfold pers at h
 rw [pairs_get] at h
 split at h
 ·rename_i x y hx hy
  injection h with h; subst h
  exact ⟨hx, hy⟩
 ·cases h
theorem ends_len (a b mo : Int) : (ends a b mo).length = (pers a b mo).length + 1 := by
 rw [pers_len]
 unfold ends
 rw [List.length_cons, List.length_append, List.length_reverse]
 rfl
theorem ends_lt {i : Inst} (h : BdI i) {j k : Nat} {x y : Int} (hx : (ends i.issued i.matures i.months)[j]? = some x) (hy : (ends i.issued i.matures i.months)[k]? = some y) (hjk : j < k) : x < y := by
 obtain ⟨i1, e1⟩ := List.getElem?_eq_some_iff.1 hx
 obtain ⟨i2, e2⟩ := List.getElem?_eq_some_iff.1 hy
 have := List.pairwise_iff_getElem.1 (ends_asc h.mo.1 h.mat.1.1 h.mat.1.2 h.mat.2) j k i1 i2 hjk
 rw [e1, e2] at this
 exact this
theorem ends_le {i : Inst} (h : BdI i) {j k : Nat} {x y : Int} (hx : (ends i.issued i.matures i.months)[j]? = some x) (hy : (ends i.issued i.matures i.months)[k]? = some y) (hjk : j ≤ k) : x ≤ y := by
 rcases Nat.lt_or_ge j k with h1 | h1
 ·exact Int.le_of_lt (ends_lt h hx hy h1)
 ·have : j = k := by omega
  subst this
  rw [hx] at hy
  injection hy with hy
  omega
theorem per_lt {i : Inst} (h : BdI i) {k : Nat} {p : Int × Int} (hp : (perL i)[k]? = some p) : p.1 < p.2 := pers_lt h.mo.1 h.mat.1.1 h.mat.1.2 h.mat.2 hp
theorem per_in {i : Inst} (h : BdI i) {k : Nat} {p : Int × Int} (hp : (perL i)[k]? = some p) : i.issued ≤ p.1 ∧ p.1 ≤ i.matures ∧ i.issued ≤ p.2 ∧ p.2 ≤ i.matures := pers_ok h.mo.1 h.mat.1.1 h.mat.1.2 h.mat.2 (List.mem_of_getElem? hp)
theorem per_last {i : Inst} {k : Nat} {p : Int × Int} (hp : (perL i)[k]? = some p) (hk : k + 1 = (perL i).length) : p.2 = i.matures := by
 have h1 := (pers_get hp).2
 have h2 := ends_len i.issued i.matures i.months
 have h3 : (ends i.issued i.matures i.months).getLast? = some i.matures := by unfold ends; rw [← List.cons_append]; exact List.getLast?_concat
 rw [List.getLast?_eq_getElem?, h2] at h3
 have e : (pers i.issued i.matures i.months).length + 1 - 1 = k + 1 := by show (perL i).length + 1 - 1 = _; omega
 rw [e, h1] at h3
 injection h3
theorem per_at {i : Inst} (h : BdI i) {k : Nat} {p : Int × Int} (hp : (perL i)[k]? = some p) {d : Int} (h1 : p.1 ≤ d) (h2 : d < p.2) : atZ (perL i) d = (k : Int) := by
 refine atZ_some hp (by unfold inP; rw [decide_eq_true h1, decide_eq_true h2]; rfl) fun x hx => ?_
 obtain ⟨j, hj, rfl⟩ := List.mem_take_iff_getElem.1 hx
 have hx2 : (perL i)[j]? = some (perL i)[j] := List.getElem?_eq_getElem (by omega)
 have := ends_le h (pers_get hx2).2 (pers_get hp).1 (by omega)
 unfold inP
 rw [decide_eq_false (p := d < (perL i)[j].2) (by omega), Bool.and_false]
theorem dcF_self {c a : Int} (ha : okDay a) : dcF c a a = 0 := by
 have z : ((0 : Int) : Rat) = 0 := rfl
 unfold dcF
 split
 ·exact Rat.sub_self
 ·split
  ·rw [Int.sub_self, z, Rat.div_def, Rat.zero_mul]
  ·split
   ·rw [Int.sub_self, z, Rat.div_def, Rat.zero_mul]
   ·rw [days30_self ha.1 ha.2, z, Rat.div_def, Rat.zero_mul]
theorem divc_mono {a b : Int} {c : Rat} (hc : 0 < c) (h : a ≤ b) : (a : Rat) / c ≤ (b : Rat) / c := by
 rw [Rat.div_def, Rat.div_def]
 exact Rat.mul_le_mul_of_nonneg_right (Rat.intCast_le_intCast.2 h) (Rat.le_of_lt (Rat.inv_pos.2 hc))
theorem dcF_mono {c a b d : Int} (ha : okDay a) (hb : okDay b) (h : b ≤ d) (hd : okDay d) : dcF c a b ≤ dcF c a d := by
 unfold dcF
 split
 ·have := yrs_mono hb.1 h hd.2
  grind
 ·split
  ·exact divc_mono (by decide) (by omega)
  ·split
   ·exact divc_mono (by decide) (by omega)
   ·exact divc_mono (by decide) (days30_mono ha.1 ha.2 hb.1 h hd.2)
theorem dcF_nn {c a b : Int} (ha : okDay a) (hb : okDay b) (h : a ≤ b) : 0 ≤ dcF c a b := by
 have := dcF_mono (c := c) ha ha h hb
 rw [dcF_self ha] at this
 exact this
theorem intQ_nn {i : Inst} (h : BdI i) {a b : Int} (ha : okDay a) (hb : okDay b) (hab : a ≤ b) : 0 ≤ intQ i a b := Rat.mul_nonneg h.fc_nn (dcF_nn ha hb hab)
theorem acc_per {i : Inst} (h : BdI i) {k : Nat} {p : Int × Int} (hp : (perL i)[k]? = some p) {d : Int} (h1 : p.1 ≤ d) (h2 : d < p.2) : accQ i d = intQ i p.1 d := accQ_some (per_at h hp h1 h2) hp
noncomputable def coupQ (i : Inst) (k : Nat) : Rat := intQ i ((perL i).getD k (0, 0)).1 ((perL i).getD k (0, 0)).2
theorem coupQ_eq {i : Inst} {k : Nat} {p : Int × Int} (hp : (perL i)[k]? = some p) : coupQ i k = intQ i p.1 p.2 := by
 unfold coupQ
 rw [List.getD_eq_getElem?_getD, hp]
 rfl
theorem coupQ_nn {i : Inst} (h : BdI i) {k : Nat} (hk : k < (perL i).length) : 0 ≤ coupQ i k := by
 obtain ⟨p, hp⟩ : ∃ p, (perL i)[k]? = some p := ⟨_, List.getElem?_eq_getElem hk⟩
 have ho := h.per (List.mem_of_getElem? hp)
 rw [coupQ_eq hp]
 exact intQ_nn h ho.1 ho.2 (Int.le_of_lt (per_lt h hp))
theorem payAt_2 (i : Inst) (k : Nat) : (payAt i (perL i) k).2.2 = coupQ i k + (if k + 1 = (perL i).length then fv i.fn i.fd else 0) := rfl
theorem amt_at {i : Inst} {k : Nat} (h : k < (perL i).length) : (amtL i)[k]? = some (coupQ i k + (if k + 1 = (perL i).length then fv i.fn i.fd else 0)) := by rw [amtL_get i h, payAt_2]
theorem amt_drop {i : Inst} {k : Nat} (h : k < (perL i).length) : (amtL i).drop k = (coupQ i k + (if k + 1 = (perL i).length then fv i.fn i.fd else 0)) :: (amtL i).drop (k + 1) := by
 obtain ⟨hj, e⟩ := List.getElem?_eq_some_iff.1 (amt_at h)
 rw [List.drop_eq_getElem_cons hj, e]
theorem pres_beg {i : Inst} (h : BdI i) {k : Nat} {p : Int × Int} (hp : (perL i)[k]? = some p) (y : Rat) : presQ i p.1 y = pv (1 + y) ((amtL i).drop k) := by
 have hk := (List.getElem?_eq_some_iff.1 hp).1
 have hlt := per_lt h hp
 rw [presQ_some (per_at h hp (Int.le_refl _) hlt) hp (amt_at hk), amt_drop hk, pv]
 have e : Rat.divInt (p.2 - p.1) (p.2 - p.1) = 1 := by
  have h0 : (p.2 - p.1) ≠ 0 := by omega
  rw [Rat.divInt_eq_div, Rat.div_def]
  exact Rat.mul_inv_cancel _ (by intro h; exact h0 (Rat.intCast_inj.1 (h.trans (show (0 : Rat) = ((0 : Int) : Rat) from rfl))))
 rw [e, Rat.mul_one, Rat.add_comm (pv _ _)]
theorem amt_dropN (i : Inst) : (amtL i).drop (perL i).length = [] := List.drop_eq_nil_of_le (by rw [amtL_len]; exact Nat.le_refl _)
theorem amt_par {i : Inst} {c : Rat} (hc : ∀ j, j < (perL i).length → coupQ i j = c) : ∀ (n k : Nat), k + n + 1 = (perL i).length → (amtL i).drop k = List.replicate n c ++ [c + fv i.fn i.fd]
 | 0, k, hk => by
   rw [amt_drop (by omega), if_pos (by omega), hc k (by omega), show k + 1 = (perL i).length from by omega, amt_dropN]
   rfl
 | n + 1, k, hk => by
   rw [amt_drop (by omega), if_neg (by omega), hc k (by omega), amt_par hc n (k + 1) (by omega), Rat.add_zero]
   rfl
theorem pres_par {i : Inst} (h : BdI i) {k : Nat} {p : Int × Int} (hp : (perL i)[k]? = some p) {c : Rat} (hc : ∀ j, j < (perL i).length → coupQ i j = c) :
 presQ i p.1 (c / fv i.fn i.fd) = fv i.fn i.fd := by
 have hk := (List.getElem?_eq_some_iff.1 hp).1
 have hc0 : 0 ≤ c := by rw [← hc k hk]; exact coupQ_nn h hk
 have hf := h.face_pos
 have hd : 0 ≤ c / fv i.fn i.fd := div_nonneg' hc0 hf
 rw [pres_beg h hp, amt_par hc ((perL i).length - k - 1) k (by omega)]
 exact pv_par (by grind) rfl (by grind) _
theorem left_ok {i : Inst} (h : BdI i) {k : Nat} {p : Int × Int} (hp : (perL i)[k]? = some p) {d : Int} (h1 : p.1 ≤ d) (h2 : d < p.2) : 0 < Rat.divInt (p.2 - d) (p.2 - p.1) ∧ Rat.divInt (p.2 - d) (p.2 - p.1) ≤ 1 := part_le (by omega) (by omega)
theorem by_pos {y t : Rat} (hy : 0 < 1 + y) (h0 : 0 < t) (h1 : t ≤ 1) : 0 < 1 + y * t := by
 rcases (Rat.le_total : 0 ≤ y ∨ y ≤ 0) with h | h
 ·have := Rat.mul_nonneg h (Rat.le_of_lt h0)
  grind
 ·have h3 : (-y) * t ≤ (-y) * 1 := Rat.mul_le_mul_of_nonneg_left h1 (by grind)
  grind
theorem paysN_get (i : Inst) (l : List (Int × Int)) {n k : Nat} (h : k < n) : (paysN i l n)[k]? = some (payAt i l k) := by
 unfold paysN
 rw [List.getElem?_map, List.getElem?_range h]
 rfl
theorem payAt_1 {i : Inst} {k : Nat} {p : Int × Int} (hp : (perL i)[k]? = some p) : (payAt i (perL i) k).1 = p.1 ∧ (payAt i (perL i) k).2.1 = p.2 := by
 unfold payAt
 rw [List.getD_eq_getElem?_getD, hp]
 exact ⟨rfl, rfl⟩
theorem flowsOf_map (xs : List (Int × Int × Rat)) : flowsOf xs = (xs.filter fun x => !decide (x.2.2 = 0)).map fun x => (x.2.1, x.2.2) := by
 unfold flowsOf
 induction xs with
 | nil => rfl
 | cons x r ih =>
   by_cases h : x.2.2 = 0
   ·rw [List.filterMap_cons, if_pos h, List.filter_cons_of_neg (by simp [h]), ih]
   ·rw [List.filterMap_cons, if_neg h, List.filter_cons_of_pos (by simp [h]), List.map_cons, ih]
theorem flows_mem {i : Inst} {f : Int × Rat} (hf : f ∈ flowsL i) : f.2 ≠ 0 ∧ f.2 ∈ amtL i ∧ ∃ p ∈ perL i, f.1 = p.2 := by
 unfold flowsL at hf
 rw [flowsOf_map, List.mem_map] at hf
 obtain ⟨x, hx, rfl⟩ := hf
 rw [List.mem_filter] at hx
 refine ⟨by simpa using hx.2, by unfold amtL; exact List.mem_map.2 ⟨x, hx.1, rfl⟩, ?_⟩
 obtain ⟨k, hk⟩ := List.getElem?_of_mem hx.1
 have hl : k < (perL i).length := by rw [← paysN_len i (perL i) (perL i).length]; exact (List.getElem?_eq_some_iff.1 hk).1
 rw [paysN_get i _ hl] at hk
 injection hk with hk
 obtain ⟨p, hp⟩ : ∃ p, (perL i)[k]? = some p := ⟨_, List.getElem?_eq_getElem hl⟩
 exact ⟨p, List.mem_of_getElem? hp, by rw [← hk]; exact (payAt_1 hp).2⟩
theorem flows_len (i : Inst) : (flowsL i).length ≤ (perL i).length := by
 unfold flowsL
 have := flowsOf_len (paysN i (perL i) (perL i).length)
 rw [paysN_len] at this
 exact this
theorem per_pos (i : Inst) : 0 < (perL i).length := by have := pers_len i.issued i.matures i.months; unfold perL; omega
theorem flows_last {i : Inst} (h : BdI i) : (flowsL i).getLast? = some (i.matures, coupQ i ((perL i).length - 1) + fv i.fn i.fd) := by
 obtain ⟨m, hm⟩ : ∃ m, (perL i).length = m + 1 := ⟨(perL i).length - 1, by have := per_pos i; omega⟩
 have hc := coupQ_nn h (k := m) (by omega)
 have hf := h.face_pos
 obtain ⟨p, hp⟩ : ∃ p, (perL i)[m]? = some p := ⟨_, List.getElem?_eq_getElem (by omega)⟩
 unfold flowsL
 rw [hm, paysN_succ, flowsOf_snoc]
 have e1 : (payAt i (perL i) m).2.2 = coupQ i m + fv i.fn i.fd := by rw [payAt_2, if_pos hm.symm]
 rw [if_neg (by rw [e1]; grind), List.getLast?_concat, e1, (payAt_1 hp).2, per_last hp hm.symm]
 rfl
theorem flows_ne {i : Inst} (h : BdI i) : flowsL i ≠ [] := by
 intro h0
 have := flows_last h
 rw [h0] at this
 cases this
def dbl (i : Inst) : Inst := { i with fn := I (fv i.fn i.fd * 2).num, fd := dn (fv i.fn i.fd * 2) }
theorem dbl_fv (i : Inst) : fv (dbl i).fn (dbl i).fd = fv i.fn i.fd * 2 := fv_enc _
theorem dbl_int (i : Inst) (a b : Int) : intQ (dbl i) a b = intQ i a b * 2 := by
 unfold intQ
 rw [dbl_fv]
 show fv i.fn i.fd * 2 * fv i.cn i.cd * dcF i.count a b = _
 grind
theorem dbl_per (i : Inst) : perL (dbl i) = perL i := rfl
theorem dbl_acc (i : Inst) (d : Int) : accQ (dbl i) d = accQ i d * 2 := by
 unfold accQ
 rw [dbl_per]
 cases (perL i).findIdx? (inP d) with
 | none => show (0 : Rat) = 0 * 2; grind
 | some k => exact dbl_int i _ _
theorem dbl_pay (i : Inst) (k : Nat) : payAt (dbl i) (perL i) k = ((payAt i (perL i) k).1, (payAt i (perL i) k).2.1, (payAt i (perL i) k).2.2 * 2) := by
 unfold payAt
 rw [dbl_int, dbl_fv]
 simp only
 congr 2
 split <;> grind
theorem dbl_pays (i : Inst) : paysN (dbl i) (perL (dbl i)) (perL (dbl i)).length = (paysN i (perL i) (perL i).length).map fun x => (x.1, x.2.1, x.2.2 * 2) := by
 rw [dbl_per]
 unfold paysN
 rw [List.map_map]
 refine List.map_congr_left fun k _ => ?_
 exact dbl_pay i k
theorem dbl_flows (i : Inst) : flowsL (dbl i) = (flowsL i).map fun f => (f.1, f.2 * 2) := by
 unfold flowsL
 rw [dbl_pays]
 generalize paysN i (perL i) (perL i).length = xs
 unfold flowsOf
 induction xs with
 | nil => rfl
 | cons x r ih =>
   rw [List.map_cons, List.filterMap_cons, List.filterMap_cons]
   by_cases h : x.2.2 = 0
   ·have h2 : x.2.2 * 2 = 0 := by rw [h]; exact Rat.zero_mul _
    simp only [if_pos h, if_pos h2]
    exact ih
   ·have h2 : x.2.2 * 2 ≠ 0 := by intro e; apply h; grind
    simp only [if_neg h, if_neg h2, List.map_cons]
    rw [ih]
theorem dbl_amt (i : Inst) : amtL (dbl i) = (amtL i).map (2 * ·) := by
 unfold amtL
 rw [dbl_pays, List.map_map, List.map_map]
 refine List.map_congr_left fun x _ => ?_
 exact Rat.mul_comm _ _
theorem dbl_pres (i : Inst) (d : Int) (y : Rat) : presQ (dbl i) d y = presQ i d y * 2 := by
 unfold presQ
 rw [dbl_per]
 cases (perL i).findIdx? (inP d) with
 | none => show (0 : Rat) = 0 * 2; grind
 | some k =>
   simp only
   rw [dbl_amt, ← List.map_drop, pvB_scale, Rat.mul_comm]
theorem ndig_size (a : ByteArray) : ndig a ≤ a.size := by unfold ndig; split <;> omega
theorem dbl_ok {i : Inst} (h : BdI i) (h1 : i.fn.size ≤ 13) (h2 : i.fd.size ≤ 13) : BdI (dbl i) := by
 have hb : BdQ (fv i.fn i.fd * 2) 15 := BdQ.mul (a := 14) (b := 1) (fv_bd _ _ (by omega) (by omega)) (BdQ.int (z := 2) (by decide) (by decide))
 have b1 := hb.num
 have b2 := hb.dn
 obtain ⟨s1, s2, s3, s4, s5, s6, s7, s8, s9⟩ := h.sz
 have hc : CanQ (I (fv i.fn i.fd * 2).num) (dn (fv i.fn i.fd * 2)) := by
  unfold CanQ
  rw [fv_enc]
  exact ⟨rfl, rfl⟩
 have n1 : numchk (I (fv i.fn i.fd * 2).num) (dn (fv i.fn i.fd * 2)) = 0 := by
  have d1 := ndig_size (I (fv i.fn i.fd * 2).num)
  have d2 := ndig_size (dn (fv i.fn i.fd * 2))
  unfold numchk
  rw [if_neg (fun x => x hc), if_neg (by omega)]
 have hp := h.face_pos
 obtain ⟨o1, o2, o3, o4, o5, o6, o7⟩ := h.bo
 exact {
  sz := ⟨s1, s2, by show (I (fv i.fn i.fd * 2).num).size ≤ _; omega, by show (dn (fv i.fn i.fd * 2)).size ≤ _; omega, s5, s6, s7, s8, s9⟩
  f1 := by show (I (fv i.fn i.fd * 2).num).size ≤ _; omega
  f2 := by show (dn (fv i.fn i.fd * 2)).size ≤ _; omega
  c1 := h.c1
  c2 := h.c2
  kd := h.kd
  ok := { id := h.ok.id, kind := h.ok.kind, cur := h.ok.cur, places := h.ok.places, issued := h.ok.issued, matures := h.ok.matures, n1 := n1, n2 := h.ok.n2, n3 := h.ok.n3, plain := fun e => absurd h.kd e, bond := fun _ => ⟨by show 0 < vl (I (fv i.fn i.fd * 2).num); rw [vl_I]; exact num_pos'.2 (by grind), o2, o3, o4, o5, o6, o7⟩, fwd := fun e => absurd (h.kd.symm.trans e) (by decide) } }
def eb : Inst := ⟨⟨#[98]⟩, 2, ⟨#[85, 83, 68]⟩, 0, 19737, 20103, ⟨#[49, 48, 48, 48]⟩, ⟨#[]⟩, ⟨#[51]⟩, ⟨#[53, 48]⟩, 6, 3, ⟨#[]⟩, ⟨#[]⟩, ⟨#[]⟩⟩
theorem eb_f : fv eb.fn eb.fd = 1000 := by kernel_rfl
theorem eb_c : fv eb.cn eb.cd = mkRat 3 50 := by kernel_rfl
theorem eb_n {n d : ByteArray} (q : Rat) (h : fv n d = q) (h1 : n = I q.num) (h2 : d = dn q) (h3 : ndig n ≤ 40) (h4 : ndig d ≤ 40) : numchk n d = 0 := by
 have hc : CanQ n d := by
  unfold CanQ
  rw [h]
  exact ⟨h1, h2⟩
 unfold numchk
 rw [if_neg (fun x => x hc), if_neg (by omega)]
theorem eb_ok : BdI eb where
 sz := ⟨by decide, by decide, by decide, by decide, by decide, by decide, by decide, by decide, by decide⟩
 f1 := by decide
 f2 := by decide
 c1 := by decide
 c2 := by decide
 kd := rfl
 ok := { id := by decide, kind := by decide, cur := by decide, places := by decide, issued := by unfold okDay; decide, matures := .inr ⟨by decide, by unfold okDay; decide, by decide⟩, n1 := eb_n 1000 eb_f (by kernel_rfl) (by kernel_rfl) (by decide) (by decide), n2 := eb_n (mkRat 3 50) eb_c (by kernel_rfl) (by kernel_rfl) (by decide) (by decide), n3 := eb_n 0 (by kernel_rfl) (by kernel_rfl) (by kernel_rfl) (by decide) (by decide), plain := fun h => absurd rfl h, bond := fun _ => ⟨by decide, by decide, by decide, by decide, by decide, rfl, by decide⟩, fwd := fun h => absurd h (by decide) }
theorem d_issued : VDate 2024 1 15 ∧ dayOf 2024 1 15 = 19737 := by unfold VDate lenB leapB; decide
theorem d_jul : VDate 2024 7 15 ∧ dayOf 2024 7 15 = 19919 := by unfold VDate lenB leapB; decide
theorem d_mat : VDate 2025 1 15 ∧ dayOf 2025 1 15 = 20103 := by unfold VDate lenB leapB; decide
theorem d_apr : VDate 2024 4 15 ∧ dayOf 2024 4 15 = 19828 := by unfold VDate lenB leapB; decide
theorem eb_dk : dK 20103 = 24300 ∧ dD 20103 = 15 := dK_eq d_mat.1 d_mat.2
theorem eb_cuts : cuts 19737 20103 6 = [19919] := by
 have a1 : addM 20103 (-((1 : Nat) * (6 : Int))) = some 19919 := by
  unfold addM
  rw [eb_dk.1, eb_dk.2, if_pos (by decide), kDay_of]
  have e : dayOf (kY (24300 + -((1 : Nat) * (6 : Int)))) (kM (24300 + -((1 : Nat) * (6 : Int)))) (min 15 (kL (24300 + -((1 : Nat) * (6 : Int))))) = 19919 := by decide
  rw [e]
 have a2 : addM 20103 (-((2 : Nat) * (6 : Int))) = some 19737 := by
  unfold addM
  rw [eb_dk.1, eb_dk.2, if_pos (by decide), kDay_of]
  have e : dayOf (kY (24300 + -((2 : Nat) * (6 : Int)))) (kM (24300 + -((2 : Nat) * (6 : Int)))) (min 15 (kL (24300 + -((2 : Nat) * (6 : Int))))) = 19737 := by decide
  rw [e]
 have c1 : cutAt 19737 20103 6 1 = some 19919 := cutAt_of a1 (by decide)
 have c2 : cutAt 19737 20103 6 2 = none := cutAt_none (fun d hd => by
  have hd' : addM 20103 (-((2 : Nat) * (6 : Int))) = some d := hd
  rw [a2] at hd'
  injection hd' with hd'
  omega)
 have n0 := cuts_next (a := 19737) (b := 20103) (mo := 6) (by decide) (i := 0) (Nat.zero_le _)
 rw [show 0 + 1 = 1 from rfl, c1] at n0
 have hl : 1 ≤ (cuts 19737 20103 6).length := (List.getElem?_eq_some_iff.1 n0).1
 have n1 := cuts_next (a := 19737) (b := 20103) (mo := 6) (by decide) (i := 1) hl
 rw [show 1 + 1 = 2 from rfl, c2] at n1
 have hl2 : (cuts 19737 20103 6).length ≤ 1 := List.getElem?_eq_none_iff.1 n1
 generalize cuts 19737 20103 6 = l at n0 hl hl2
 match l, n0, hl2 with
 | [x], n0, _ => simp at n0; rw [n0]
theorem eb_per : perL eb = [(19737, 19919), (19919, 20103)] := by
 show pers 19737 20103 6 = _
 unfold pers ends
 rw [eb_cuts]
 rfl
theorem eb_few : (cuts eb.issued eb.matures eb.months).length ≤ 399 := by
 show (cuts 19737 20103 6).length ≤ 399
 rw [eb_cuts]
 decide
theorem eb_y1 : dcF 3 19737 19919 = mkRat 1 2 := by
 unfold dcF
 rw [if_neg (by decide), if_neg (by decide), if_neg (by decide), days30_eq d_issued.1 d_issued.2 d_jul.1 d_jul.2, show d30 3 2024 1 15 2024 7 15 = 180 from by decide]
 kernel_rfl
theorem eb_y2 : dcF 3 19919 20103 = mkRat 1 2 := by
 unfold dcF
 rw [if_neg (by decide), if_neg (by decide), if_neg (by decide), days30_eq d_jul.1 d_jul.2 d_mat.1 d_mat.2, show d30 3 2024 7 15 2025 1 15 = 180 from by decide]
 kernel_rfl
theorem eb_y3 : dcF 3 19737 19828 = mkRat 1 4 := by
 unfold dcF
 rw [if_neg (by decide), if_neg (by decide), if_neg (by decide), days30_eq d_issued.1 d_issued.2 d_apr.1 d_apr.2, show d30 3 2024 1 15 2024 4 15 = 90 from by decide]
 kernel_rfl
theorem eb_int {a b : Int} {q : Rat} (h : dcF 3 a b = q) : intQ eb a b = 1000 * mkRat 3 50 * q := by
 unfold intQ
 rw [eb_f, eb_c]
 show _ * dcF 3 a b = _
 rw [h]
theorem eb_p0 : (perL eb)[0]? = some (19737, 19919) := by rw [eb_per]; rfl
theorem eb_p1 : (perL eb)[1]? = some (19919, 20103) := by rw [eb_per]; rfl
theorem eb_len : (perL eb).length = 2 := by rw [eb_per]; rfl
theorem eb_c0 : coupQ eb 0 = 30 := by rw [coupQ_eq eb_p0, eb_int eb_y1]; kernel_rfl
theorem eb_c1 : coupQ eb 1 = 30 := by rw [coupQ_eq eb_p1, eb_int eb_y2]; kernel_rfl
theorem eb_acc : accQ eb 19828 = 15 := by rw [acc_per eb_ok eb_p0 (by decide) (by decide), eb_int eb_y3]; kernel_rfl
theorem eb_flows : flowsL eb = [(19919, 30), (20103, 1030)] := by
 unfold flowsL
 rw [eb_len, show (2 : Nat) = 0 + 1 + 1 from rfl, paysN_succ, paysN_succ, flowsOf_snoc, flowsOf_snoc]
 have p0 : payAt eb (perL eb) 0 = (19737, 19919, 30) := by
  have e := payAt_2 eb 0
  rw [eb_c0, eb_len, if_neg (by decide), Rat.add_zero] at e
  exact Prod.ext (payAt_1 eb_p0).1 (Prod.ext (payAt_1 eb_p0).2 e)
 have p1 : payAt eb (perL eb) 1 = (19919, 20103, 1030) := by
  have e := payAt_2 eb 1
  rw [eb_c1, eb_len, if_pos (by decide), eb_f] at e
  exact Prod.ext (payAt_1 eb_p1).1 (Prod.ext (payAt_1 eb_p1).2 (e.trans (by kernel_rfl)))
 rw [p0, p1, if_neg (by decide), if_neg (by decide)]
 rfl
theorem eb_cc : ∀ j, j < (perL eb).length → coupQ eb j = 30 := by
 intro j hj
 rw [eb_len] at hj
 rcases (show j = 0 ∨ j = 1 by omega) with rfl | rfl
 ·exact eb_c0
 ·exact eb_c1
theorem eb_rate : (30 : Rat) / fv eb.fn eb.fd = mkRat 3 100 := by rw [eb_f]; kernel_rfl
theorem eb_pres0 : presQ eb 19737 (mkRat 3 100) = 1000 := by
 have := pres_par eb_ok eb_p0 eb_cc
 rw [eb_rate, eb_f] at this
 exact this
theorem eb_pres1 : presQ eb 19919 (mkRat 3 100) = 1000 := by
 have := pres_par eb_ok eb_p1 eb_cc
 rw [eb_rate, eb_f] at this
 exact this
end Go.Proofs.YtcnmoobojdopgaaGreatDoor
