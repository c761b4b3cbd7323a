/-
  The walk of bond.Coupon. (Printed by gen_bd16.py.)
  Plain facts of bonds: periods, interest, flows, present values.
  Plain facts of the flows of bonds; of a bond with the double face.
  The bond of the chapter's example, plainly: periods, flows, interest, present values.
-/
import Derived.Test.YtnnjgpgccifknaaGreatDoorB33
set_option linter.unusedVariables false
set_option linter.unusedSimpArgs false
set_option maxHeartbeats 16000000
set_option maxRecDepth 100000
namespace Tr
def rsum (l : List Rat) : Rat := l.foldl (· + ·) 0
theorem foldl_rsum : ∀ (l : List Rat) (a : Rat), l.foldl (· + ·) a = a + rsum l
 | [], a => by show a = a + 0; grind
 | x :: r, a => by
   have h1 := foldl_rsum r (a + x)
   have h2 := foldl_rsum r (0 + x)
   have h3 : rsum (x :: r) = r.foldl (· + ·) (0 + x) := rfl
   rw [h3, h2, List.foldl_cons, h1]
   grind
theorem rsum_cons (x : Rat) (r : List Rat) : rsum (x :: r) = x + rsum r := by
 have h2 := foldl_rsum r (0 + x)
 have h3 : rsum (x :: r) = r.foldl (· + ·) (0 + x) := rfl
 rw [h3, h2]; grind
theorem rsum_append (a b : List Rat) : rsum (a ++ b) = rsum a + rsum b := by
 unfold rsum
 rw [List.foldl_append, foldl_rsum]
 rfl
theorem pv_one : ∀ l : List Rat, pv 1 l = rsum l
 | [] => rfl
 | x :: r => by rw [pv, pv_one r, rsum_cons]; grind
theorem div_le_iff' {a b c : Rat} (hb : 0 < b) : a / b ≤ c ↔ a ≤ c * b := by
 constructor
 ·intro h
  refine Rat.not_lt.1 fun k => ?_
  exact Rat.not_lt.2 h ((Rat.lt_div_iff hb).2 k)
 ·intro h
  refine Rat.not_lt.1 fun k => ?_
  exact Rat.not_lt.2 h ((Rat.lt_div_iff hb).1 k)
theorem le_div_iff' {a b c : Rat} (hc : 0 < c) : a ≤ b / c ↔ a * c ≤ b := by
 constructor
 ·intro h
  refine Rat.not_lt.1 fun k => ?_
  exact Rat.not_lt.2 h ((Rat.div_lt_iff hc).2 k)
 ·intro h
  refine Rat.not_lt.1 fun k => ?_
  exact Rat.not_lt.2 h ((Rat.div_lt_iff hc).1 k)
theorem div_anti {a b c d : Rat} (ha : 0 ≤ a) (hab : a ≤ b) (hc : 0 < c) (hcd : c ≤ d) : a / d ≤ b / c := by
 have hd : 0 < d := by grind
 rw [div_le_iff' hd]
 have h1 : a * c ≤ b * d := by
  have e1 : a * c ≤ b * c := Rat.mul_le_mul_of_nonneg_right hab (Rat.le_of_lt hc)
  have e2 : b * c ≤ b * d := Rat.mul_le_mul_of_nonneg_left hcd (by grind)
  grind
 have e3 : b / c * d = b * d / c := by rw [Rat.div_def, Rat.div_def]; grind
 rw [e3, le_div_iff' hc]
 exact h1
theorem pv_nonneg {g : Rat} (hg : 0 < g) : ∀ l : List Rat, (∀ x ∈ l, 0 ≤ x) → 0 ≤ pv g l
 | [], _ => by show (0 : Rat) ≤ 0; grind
 | x :: r, h => by
   have ih := pv_nonneg hg r fun y hy => h y (List.mem_cons_of_mem _ hy)
   have hx := h x (List.mem_cons_self ..)
   exact div_nonneg' (by grind) hg
theorem pv_anti {g h : Rat} (hg : 0 < g) (hgh : g ≤ h) : ∀ l : List Rat, (∀ x ∈ l, 0 ≤ x) → pv h l ≤ pv g l
 | [], _ => by show (0 : Rat) ≤ 0; grind
 | x :: r, hl => by
   have ih := pv_anti hg hgh r fun y hy => hl y (List.mem_cons_of_mem _ hy)
   have hx := hl x (List.mem_cons_self ..)
   have hn := pv_nonneg (g := h) (by grind) r fun y hy => hl y (List.mem_cons_of_mem _ hy)
   exact div_anti (by grind) (by grind) hg hgh
theorem pvB_nonneg {b g : Rat} (hb : 0 < b) (hg : 0 < g) : ∀ l : List Rat, (∀ x ∈ l, 0 ≤ x) → 0 ≤ pvB b g l
 | [], _ => by show (0 : Rat) ≤ 0; grind
 | x :: r, h => by
   have ih := pv_nonneg hg r fun y hy => h y (List.mem_cons_of_mem _ hy)
   have hx := h x (List.mem_cons_self ..)
   exact div_nonneg' (by grind) hb
theorem pvB_anti {b g c h : Rat} (hb : 0 < b) (hbc : b ≤ c) (hg : 0 < g) (hgh : g ≤ h) : ∀ l : List Rat, (∀ x ∈ l, 0 ≤ x) → pvB c h l ≤ pvB b g l
 | [], _ => by show (0 : Rat) ≤ 0; grind
 | x :: r, hl => by
   have ih := pv_anti hg hgh r fun y hy => hl y (List.mem_cons_of_mem _ hy)
   have hx := hl x (List.mem_cons_self ..)
   have hn := pv_nonneg (g := h) (by grind) r fun y hy => hl y (List.mem_cons_of_mem _ hy)
   exact div_anti (by grind) (by grind) hb hbc
end Tr
namespace Go.Proofs.YtnnjgpgccifknaaGreatDoor
open Go.RowKit Tr Go.Shelf
theorem hasFrac_none (c : Nat) (w : World) : Calls Tryz.prog 130 #[.slice none 0 c, .func (.func 131) #[] #[]] w fun e w' => e = .returned (.bool false) ∧ Below w.heap.size w w' := by
 refine hasFrac_of (.slice none 0 c) (-1) w ?_
 go_enter Tryz.func194, Tryz.ntmps194
 go_wp2_with fail
 go_loop [8] (fun v => v = .int .i64 0) (fun _ => 0)
 case atStart => rfl
 case round =>
  subst hrel
  go_wp2_with fail
  go_ret
  exact ⟨rfl, Below.refl _ _⟩
attribute [local go_sem] Oper.semAt_some
end Go.Proofs.YtnnjgpgccifknaaGreatDoor
namespace Go.Proofs.YtnnjgpgccifknaaGreatDoor
open Go.RowKit Tr Go.Shelf
theorem numchk_can {n d : ByteArray} (h : numchk n d = 0) : CanQ n d := by
 refine Classical.byContradiction fun hc => ?_
 unfold numchk at h
 rw [if_pos hc] at h
 exact absurd h (by decide)
theorem canQ_vl {n d : ByteArray} (h : CanQ n d) : vl n = (fv n d).num := by
 have h1 := congrArg vl h.1
 rw [vl_I] at h1
 exact h1
theorem BdI.fQ {i : Inst} (h : BdI i) : CanQ i.fn i.fd := numchk_can h.ok.n1
theorem BdI.cQ {i : Inst} (h : BdI i) : CanQ i.cn i.cd := numchk_can h.ok.n2
theorem BdI.face_pos {i : Inst} (h : BdI i) : 0 < fv i.fn i.fd := num_pos'.1 (by rw [← canQ_vl h.fQ]; exact h.bo.1)
theorem BdI.coup_nn {i : Inst} (h : BdI i) : 0 ≤ fv i.cn i.cd := Rat.num_nonneg.1 (by rw [← canQ_vl h.cQ]; exact h.bo.2.1)
theorem BdI.fc_nn {i : Inst} (h : BdI i) : 0 ≤ fv i.fn i.fd * fv i.cn i.cd := Rat.mul_nonneg (Rat.le_of_lt h.face_pos) h.coup_nn
theorem pers_get {a b mo : Int} {k : Nat} {p : Int × Int} (h : (pers a b mo)[k]? = some p) : (ends a b mo)[k]? = some p.1 ∧ (ends a b mo)[k + 1]? = some p.2 := by
 unfold pers at h
 rw [pairs_get] at h
 split at h
 ·rename_i x y hx hy
  injection h with h; subst h
  exact ⟨hx, hy⟩
 ·cases h
theorem ends_len (a b mo : Int) : (ends a b mo).length = (pers a b mo).length + 1 := by
 rw [pers_len]
 unfold ends
 rw [List.length_cons, List.length_append, List.length_reverse]
 rfl
theorem ends_lt {i : Inst} (h : BdI i) {j k : Nat} {x y : Int} (hx : (ends i.issued i.matures i.months)[j]? = some x) (hy : (ends i.issued i.matures i.months)[k]? = some y) (hjk : j < k) : x < y := by
 obtain ⟨i1, e1⟩ := List.getElem?_eq_some_iff.1 hx
 obtain ⟨i2, e2⟩ := List.getElem?_eq_some_iff.1 hy
 have := List.pairwise_iff_getElem.1 (ends_asc h.mo.1 h.mat.1.1 h.mat.1.2 h.mat.2) j k i1 i2 hjk
 rw [e1, e2] at this
 exact this
theorem ends_le {i : Inst} (h : BdI i) {j k : Nat} {x y : Int} (hx : (ends i.issued i.matures i.months)[j]? = some x) (hy : (ends i.issued i.matures i.months)[k]? = some y) (hjk : j ≤ k) : x ≤ y := by
 rcases Nat.lt_or_ge j k with h1 | h1
 ·exact Int.le_of_lt (ends_lt h hx hy h1)
 ·have : j = k := by omega
  subst this
  rw [hx] at hy
  injection hy with hy
  omega
theorem per_lt {i : Inst} (h : BdI i) {k : Nat} {p : Int × Int} (hp : (perL i)[k]? = some p) : p.1 < p.2 := pers_lt h.mo.1 h.mat.1.1 h.mat.1.2 h.mat.2 hp
theorem per_in {i : Inst} (h : BdI i) {k : Nat} {p : Int × Int} (hp : (perL i)[k]? = some p) : i.issued ≤ p.1 ∧ p.1 ≤ i.matures ∧ i.issued ≤ p.2 ∧ p.2 ≤ i.matures := pers_ok h.mo.1 h.mat.1.1 h.mat.1.2 h.mat.2 (List.mem_of_getElem? hp)
theorem per_last {i : Inst} {k : Nat} {p : Int × Int} (hp : (perL i)[k]? = some p) (hk : k + 1 = (perL i).length) : p.2 = i.matures := by
 have h1 := (pers_get hp).2
 have h2 := ends_len i.issued i.matures i.months
 have h3 : (ends i.issued i.matures i.months).getLast? = some i.matures := by unfold ends; rw [← List.cons_append]; exact List.getLast?_concat
 rw [List.getLast?_eq_getElem?, h2] at h3
 have e : (pers i.issued i.matures i.months).length + 1 - 1 = k + 1 := by show (perL i).length + 1 - 1 = _; omega
 rw [e, h1] at h3
 injection h3
theorem per_at {i : Inst} (h : BdI i) {k : Nat} {p : Int × Int} (hp : (perL i)[k]? = some p) {d : Int} (h1 : p.1 ≤ d) (h2 : d < p.2) : atZ (perL i) d = (k : Int) := by
 refine atZ_some hp (by unfold inP; rw [decide_eq_true h1, decide_eq_true h2]; rfl) fun x hx => ?_
 obtain ⟨j, hj, rfl⟩ := List.mem_take_iff_getElem.1 hx
 have hx2 : (perL i)[j]? = some (perL i)[j] := List.getElem?_eq_getElem (by omega)
 have := ends_le h (pers_get hx2).2 (pers_get hp).1 (by omega)
 unfold inP
 rw [decide_eq_false (p := d < (perL i)[j].2) (by omega), Bool.and_false]
theorem dcF_self {c a : Int} (ha : okDay a) : dcF c a a = 0 := by
 have z : ((0 : Int) : Rat) = 0 := rfl
 unfold dcF
 split
 ·exact Rat.sub_self
 ·split
  ·rw [Int.sub_self, z, Rat.div_def, Rat.zero_mul]
  ·split
   ·rw [Int.sub_self, z, Rat.div_def, Rat.zero_mul]
   ·rw [days30_self ha.1 ha.2, z, Rat.div_def, Rat.zero_mul]
theorem divc_mono {a b : Int} {c : Rat} (hc : 0 < c) (h : a ≤ b) : (a : Rat) / c ≤ (b : Rat) / c := by
 rw [Rat.div_def, Rat.div_def]
 exact Rat.mul_le_mul_of_nonneg_right (Rat.intCast_le_intCast.2 h) (Rat.le_of_lt (Rat.inv_pos.2 hc))
theorem dcF_mono {c a b d : Int} (ha : okDay a) (hb : okDay b) (h : b ≤ d) (hd : okDay d) : dcF c a b ≤ dcF c a d := by
 unfold dcF
 split
 ·have := yrs_mono hb.1 h hd.2
  grind
 ·split
  ·exact divc_mono (by decide) (by omega)
  ·split
   ·exact divc_mono (by decide) (by omega)
   ·exact divc_mono (by decide) (days30_mono ha.1 ha.2 hb.1 h hd.2)
theorem dcF_nn {c a b : Int} (ha : okDay a) (hb : okDay b) (h : a ≤ b) : 0 ≤ dcF c a b := by
 have := dcF_mono (c := c) ha ha h hb
 rw [dcF_self ha] at this
 exact this
theorem intQ_nn {i : Inst} (h : BdI i) {a b : Int} (ha : okDay a) (hb : okDay b) (hab : a ≤ b) : 0 ≤ intQ i a b := Rat.mul_nonneg h.fc_nn (dcF_nn ha hb hab)
theorem acc_per {i : Inst} (h : BdI i) {k : Nat} {p : Int × Int} (hp : (perL i)[k]? = some p) {d : Int} (h1 : p.1 ≤ d) (h2 : d < p.2) : accQ i d = intQ i p.1 d := accQ_some (per_at h hp h1 h2) hp
noncomputable def coupQ (i : Inst) (k : Nat) : Rat := intQ i ((perL i).getD k (0, 0)).1 ((perL i).getD k (0, 0)).2
theorem coupQ_eq {i : Inst} {k : Nat} {p : Int × Int} (hp : (perL i)[k]? = some p) : coupQ i k = intQ i p.1 p.2 := by
 unfold coupQ
 rw [List.getD_eq_getElem?_getD, hp]
 rfl
theorem coupQ_nn {i : Inst} (h : BdI i) {k : Nat} (hk : k < (perL i).length) : 0 ≤ coupQ i k := by
 obtain ⟨p, hp⟩ : ∃ p, (perL i)[k]? = some p := ⟨_, List.getElem?_eq_getElem hk⟩
 have ho := h.per (List.mem_of_getElem? hp)
 rw [coupQ_eq hp]
 exact intQ_nn h ho.1 ho.2 (Int.le_of_lt (per_lt h hp))
theorem payAt_2 (i : Inst) (k : Nat) : (payAt i (perL i) k).2.2 = coupQ i k + (if k + 1 = (perL i).length then fv i.fn i.fd else 0) := rfl
theorem amt_at {i : Inst} {k : Nat} (h : k < (perL i).length) : (amtL i)[k]? = some (coupQ i k + (if k + 1 = (perL i).length then fv i.fn i.fd else 0)) := by rw [amtL_get i h, payAt_2]
theorem amt_nn {i : Inst} (h : BdI i) : ∀ x ∈ amtL i, 0 ≤ x := by
 intro x hx
 obtain ⟨k, hk⟩ := List.getElem?_of_mem hx
 have hl : k < (perL i).length := by rw [← amtL_len]; exact (List.getElem?_eq_some_iff.1 hk).1
 rw [amt_at hl] at hk
 injection hk with hk
 subst hk
 have h1 := coupQ_nn h hl
 have h2 := h.face_pos
 split <;> grind
theorem amt_drop {i : Inst} {k : Nat} (h : k < (perL i).length) : (amtL i).drop k = (coupQ i k + (if k + 1 = (perL i).length then fv i.fn i.fd else 0)) :: (amtL i).drop (k + 1) := by
 obtain ⟨hj, e⟩ := List.getElem?_eq_some_iff.1 (amt_at h)
 rw [List.drop_eq_getElem_cons hj, e]
theorem pvB_pv (g : Rat) (l : List Rat) : pvB g g l = pv g l := by cases l <;> rfl
theorem pres_beg {i : Inst} (h : BdI i) {k : Nat} {p : Int × Int} (hp : (perL i)[k]? = some p) (y : Rat) : presQ i p.1 y = pv (1 + y) ((amtL i).drop k) := by
 have hk := (List.getElem?_eq_some_iff.1 hp).1
 have hlt := per_lt h hp
 rw [presQ_some (per_at h hp (Int.le_refl _) hlt) hp (amt_at hk), amt_drop hk, pv]
 have e : Rat.divInt (p.2 - p.1) (p.2 - p.1) = 1 := by
  have h0 : (p.2 - p.1) ≠ 0 := by omega
  rw [Rat.divInt_eq_div, Rat.div_def]
  exact Rat.mul_inv_cancel _ (by intro h; exact h0 (Rat.intCast_inj.1 (h.trans (show (0 : Rat) = ((0 : Int) : Rat) from rfl))))
 rw [e, Rat.mul_one, Rat.add_comm (pv _ _)]
theorem amt_dropN (i : Inst) : (amtL i).drop (perL i).length = [] := List.drop_eq_nil_of_le (by rw [amtL_len]; exact Nat.le_refl _)
theorem amt_par {i : Inst} {c : Rat} (hc : ∀ j, j < (perL i).length → coupQ i j = c) : ∀ (n k : Nat), k + n + 1 = (perL i).length → (amtL i).drop k = List.replicate n c ++ [c + fv i.fn i.fd]
 | 0, k, hk => by
   rw [amt_drop (by omega), if_pos (by omega), hc k (by omega), show k + 1 = (perL i).length from by omega, amt_dropN]
   rfl
 | n + 1, k, hk => by
   rw [amt_drop (by omega), if_neg (by omega), hc k (by omega), amt_par hc n (k + 1) (by omega), Rat.add_zero]
   rfl
theorem pres_par {i : Inst} (h : BdI i) {k : Nat} {p : Int × Int} (hp : (perL i)[k]? = some p) {c : Rat} (hc : ∀ j, j < (perL i).length → coupQ i j = c) :
 presQ i p.1 (c / fv i.fn i.fd) = fv i.fn i.fd := by
 have hk := (List.getElem?_eq_some_iff.1 hp).1
 have hc0 : 0 ≤ c := by rw [← hc k hk]; exact coupQ_nn h hk
 have hf := h.face_pos
 have hd : 0 ≤ c / fv i.fn i.fd := div_nonneg' hc0 hf
 rw [pres_beg h hp, amt_par hc ((perL i).length - k - 1) k (by omega)]
 exact pv_par (by grind) rfl (by grind) _
theorem left_ok {i : Inst} (h : BdI i) {k : Nat} {p : Int × Int} (hp : (perL i)[k]? = some p) {d : Int} (h1 : p.1 ≤ d) (h2 : d < p.2) : 0 < Rat.divInt (p.2 - d) (p.2 - p.1) ∧ Rat.divInt (p.2 - d) (p.2 - p.1) ≤ 1 := part_le (by omega) (by omega)
theorem by_pos {y t : Rat} (hy : 0 < 1 + y) (h0 : 0 < t) (h1 : t ≤ 1) : 0 < 1 + y * t := by
 rcases (Rat.le_total : 0 ≤ y ∨ y ≤ 0) with h | h
 ·have := Rat.mul_nonneg h (Rat.le_of_lt h0)
  grind
 ·have h3 : (-y) * t ≤ (-y) * 1 := Rat.mul_le_mul_of_nonneg_left h1 (by grind)
  grind
theorem pres_pv {i : Inst} (h : BdI i) {k : Nat} {p : Int × Int} (hp : (perL i)[k]? = some p) {d : Int} (h1 : p.1 ≤ d) (h2 : d < p.2) (y : Rat) : presQ i d y = pvB (1 + y * Rat.divInt (p.2 - d) (p.2 - p.1)) (1 + y) ((amtL i).drop k) := by
 have hk := (List.getElem?_eq_some_iff.1 hp).1
 rw [presQ_some (per_at h hp h1 h2) hp (amt_at hk), amt_drop hk, pvB, Rat.add_comm (pv _ _)]
theorem amt_nn_drop {i : Inst} (h : BdI i) (k : Nat) : ∀ x ∈ (amtL i).drop k, 0 ≤ x := fun x hx => amt_nn h x (List.mem_of_mem_drop hx)
theorem pres_anti {i : Inst} (h : BdI i) {d : Int} (h1 : i.issued ≤ d) (h2 : d < i.matures) {y z : Rat} (hy : 0 < 1 + y) (hyz : y ≤ z) : presQ i d z ≤ presQ i d y ∧ 0 ≤ presQ i d z := by
 obtain ⟨k, p, _, hp, hp1, hp2⟩ := at_life (i := i) h1 h2
 obtain ⟨t0, t1⟩ := left_ok h hp hp1 hp2
 rw [pres_pv h hp hp1 hp2, pres_pv h hp hp1 hp2]
 have hm : y * Rat.divInt (p.2 - d) (p.2 - p.1) ≤ z * Rat.divInt (p.2 - d) (p.2 - p.1) := Rat.mul_le_mul_of_nonneg_right hyz (Rat.le_of_lt t0)
 have hb := by_pos hy t0 t1
 have hz : 0 < 1 + z := by grind
 exact ⟨pvB_anti hb (by grind) hy (by grind) _ (amt_nn_drop h k), pvB_nonneg (by_pos hz t0 t1) hz _ (amt_nn_drop h k)⟩
theorem pvB_one (l : List Rat) : pvB 1 1 l = rsum l := by rw [pvB_pv, pv_one]
theorem pres_zero {i : Inst} (h : BdI i) {k : Nat} {p : Int × Int} (hp : (perL i)[k]? = some p) {d : Int} (h1 : p.1 ≤ d) (h2 : d < p.2) : presQ i d 0 = rsum ((amtL i).drop k) := by
 rw [pres_pv h hp h1 h2, Rat.zero_mul, Rat.add_zero, pvB_one]
theorem paysN_get (i : Inst) (l : List (Int × Int)) {n k : Nat} (h : k < n) : (paysN i l n)[k]? = some (payAt i l k) := by
 unfold paysN
 rw [List.getElem?_map, List.getElem?_range h]
 rfl
theorem payAt_1 {i : Inst} {k : Nat} {p : Int × Int} (hp : (perL i)[k]? = some p) : (payAt i (perL i) k).1 = p.1 ∧ (payAt i (perL i) k).2.1 = p.2 := by
 unfold payAt
 rw [List.getD_eq_getElem?_getD, hp]
 exact ⟨rfl, rfl⟩
theorem flowsOf_map (xs : List (Int × Int × Rat)) : flowsOf xs = (xs.filter fun x => !decide (x.2.2 = 0)).map fun x => (x.2.1, x.2.2) := by
 unfold flowsOf
 induction xs with
 | nil => rfl
 | cons x r ih =>
   by_cases h : x.2.2 = 0
   ·rw [List.filterMap_cons, if_pos h, List.filter_cons_of_neg (by simp [h]), ih]
   ·rw [List.filterMap_cons, if_neg h, List.filter_cons_of_pos (by simp [h]), List.map_cons, ih]
theorem flowsOf_sum (xs : List (Int × Int × Rat)) : rsum ((flowsOf xs).map Prod.snd) = rsum (xs.map fun x => x.2.2) := by
 unfold flowsOf
 induction xs with
 | nil => rfl
 | cons x r ih =>
   by_cases h : x.2.2 = 0
   ·rw [List.filterMap_cons, if_pos h, List.map_cons, rsum_cons, h, ih, Rat.zero_add]
   ·rw [List.filterMap_cons, if_neg h, List.map_cons, List.map_cons, rsum_cons, rsum_cons, ih]
theorem flows_mem {i : Inst} {f : Int × Rat} (hf : f ∈ flowsL i) : f.2 ≠ 0 ∧ f.2 ∈ amtL i ∧ ∃ p ∈ perL i, f.1 = p.2 := by
 unfold flowsL at hf
 rw [flowsOf_map, List.mem_map] at hf
 obtain ⟨x, hx, rfl⟩ := hf
 rw [List.mem_filter] at hx
 refine ⟨by simpa using hx.2, by unfold amtL; exact List.mem_map.2 ⟨x, hx.1, rfl⟩, ?_⟩
 obtain ⟨k, hk⟩ := List.getElem?_of_mem hx.1
 have hl : k < (perL i).length := by rw [← paysN_len i (perL i) (perL i).length]; exact (List.getElem?_eq_some_iff.1 hk).1
 rw [paysN_get i _ hl] at hk
 injection hk with hk
 obtain ⟨p, hp⟩ : ∃ p, (perL i)[k]? = some p := ⟨_, List.getElem?_eq_getElem hl⟩
 exact ⟨p, List.mem_of_getElem? hp, by rw [← hk]; exact (payAt_1 hp).2⟩
theorem flows_len (i : Inst) : (flowsL i).length ≤ (perL i).length := by
 unfold flowsL
 have := flowsOf_len (paysN i (perL i) (perL i).length)
 rw [paysN_len] at this
 exact this
theorem per_pos (i : Inst) : 0 < (perL i).length := by have := pers_len i.issued i.matures i.months; unfold perL; omega
theorem flows_last {i : Inst} (h : BdI i) : (flowsL i).getLast? = some (i.matures, coupQ i ((perL i).length - 1) + fv i.fn i.fd) := by
 obtain ⟨m, hm⟩ : ∃ m, (perL i).length = m + 1 := ⟨(perL i).length - 1, by have := per_pos i; omega⟩
 have hc := coupQ_nn h (k := m) (by omega)
 have hf := h.face_pos
 obtain ⟨p, hp⟩ : ∃ p, (perL i)[m]? = some p := ⟨_, List.getElem?_eq_getElem (by omega)⟩
 unfold flowsL
 rw [hm, paysN_succ, flowsOf_snoc]
 have e1 : (payAt i (perL i) m).2.2 = coupQ i m + fv i.fn i.fd := by rw [payAt_2, if_pos hm.symm]
 rw [if_neg (by rw [e1]; grind), List.getLast?_concat, e1, (payAt_1 hp).2, per_last hp hm.symm]
 rfl
theorem flows_ne {i : Inst} (h : BdI i) : flowsL i ≠ [] := by
 intro h0
 have := flows_last h
 rw [h0] at this
 cases this
def restL (i : Inst) (d : Int) : List (Int × Rat) → List (Int × Rat) := fun l => l.filter fun f => !decide (f.1 ≤ d)
theorem pays_rest {i : Inst} (h : BdI i) {d : Int} {k : Nat} (hlo : ∀ j p, j < k → (perL i)[j]? = some p → p.2 ≤ d) (hhi : ∀ j p, k ≤ j → (perL i)[j]? = some p → d < p.2) :
 (paysN i (perL i) (perL i).length).filter (fun x => !decide (x.2.1 ≤ d)) = (paysN i (perL i) (perL i).length).drop k := by
 have hg : ∀ (j : Nat) (x : Int × Int × Rat), (paysN i (perL i) (perL i).length)[j]? = some x → ∃ p : Int × Int, (perL i)[j]? = some p ∧ x.2.1 = p.2 := by
  intro j x hx
  have hl : j < (perL i).length := by rw [← paysN_len i (perL i) (perL i).length]; exact (List.getElem?_eq_some_iff.1 hx).1
  rw [paysN_get i _ hl] at hx
  injection hx with hx
  obtain ⟨p, hp⟩ : ∃ p, (perL i)[j]? = some p := ⟨_, List.getElem?_eq_getElem hl⟩
  exact ⟨p, hp, by rw [← hx]; exact (payAt_1 hp).2⟩
 generalize paysN i (perL i) (perL i).length = xs at hg
 conv => lhs; rw [← List.take_append_drop k xs]
 rw [List.filter_append]
 have e1 : (xs.take k).filter (fun x => !decide (x.2.1 ≤ d)) = [] := by
  refine List.filter_eq_nil_iff.2 fun x hx => ?_
  obtain ⟨j, hj, rfl⟩ := List.mem_take_iff_getElem.1 hx
  obtain ⟨p, hp, e⟩ := hg j _ (List.getElem?_eq_getElem (by omega))
  have := hlo j p (by omega) hp
  rw [e, decide_eq_true this]
  decide
 have e2 : (xs.drop k).filter (fun x => !decide (x.2.1 ≤ d)) = xs.drop k := by
  refine List.filter_eq_self.2 fun x hx => ?_
  obtain ⟨j, hj⟩ := List.getElem?_of_mem hx
  rw [List.getElem?_drop] at hj
  obtain ⟨p, hp, e⟩ := hg _ x hj
  have := hhi _ p (by omega) hp
  rw [e, decide_eq_false (by omega)]
  rfl
 rw [e1, e2, List.nil_append]
theorem flows_rest (i : Inst) (d : Int) : restL i d (flowsL i) = flowsOf ((paysN i (perL i) (perL i).length).filter fun x => !decide (x.2.1 ≤ d)) := by
 unfold restL flowsL
 rw [flowsOf_map, flowsOf_map, List.filter_map, List.filter_filter, List.filter_filter]
 congr 1
 refine List.filter_congr fun x _ => ?_
 exact Bool.and_comm _ _
theorem rest_sum {i : Inst} (h : BdI i) {k : Nat} {p : Int × Int} (hp : (perL i)[k]? = some p) {d : Int} (h1 : p.1 ≤ d) (h2 : d < p.2) : rsum ((restL i d (flowsL i)).map Prod.snd) = rsum ((amtL i).drop k) := by
 rw [flows_rest, pays_rest h (k := k) (fun j q hj hq => ?_) (fun j q hj hq => ?_), flowsOf_sum]
 ·unfold amtL
  rw [List.map_drop]
 ·have := ends_le h (pers_get hq).2 (pers_get hp).1 (by omega)
  omega
 ·have := ends_le h (pers_get hp).2 (pers_get hq).2 (by omega)
  omega
theorem rest_end {i : Inst} (h : BdI i) : restL i i.matures (flowsL i) = [] := by
 refine List.filter_eq_nil_iff.2 fun f hf => ?_
 obtain ⟨_, _, p, hp, e⟩ := flows_mem hf
 obtain ⟨k, hk⟩ := List.getElem?_of_mem hp
 have := per_in h hk
 rw [e, decide_eq_true (by omega)]
 decide
theorem zero_rest {i : Inst} (h : BdI i) {d : Int} (h1 : i.issued ≤ d) (h2 : d < i.matures) : presQ i d 0 = rsum ((restL i d (flowsL i)).map Prod.snd) := by
 obtain ⟨k, p, _, hp, hp1, hp2⟩ := at_life (i := i) h1 h2
 rw [pres_zero h hp hp1 hp2, rest_sum h hp hp1 hp2]
def eb : Inst := ⟨⟨#[98]⟩, 2, ⟨#[85, 83, 68]⟩, 0, 19737, 20103, ⟨#[49, 48, 48, 48]⟩, ⟨#[]⟩, ⟨#[51]⟩, ⟨#[53, 48]⟩, 6, 3, ⟨#[]⟩, ⟨#[]⟩, ⟨#[]⟩⟩
theorem eb_f : fv eb.fn eb.fd = 1000 := by kernel_rfl
theorem eb_c : fv eb.cn eb.cd = mkRat 3 50 := by kernel_rfl
theorem eb_n {n d : ByteArray} (q : Rat) (h : fv n d = q) (h1 : n = I q.num) (h2 : d = dn q) (h3 : ndig n ≤ 40) (h4 : ndig d ≤ 40) : numchk n d = 0 := by
 have hc : CanQ n d := by
  unfold CanQ
  rw [h]
  exact ⟨h1, h2⟩
 unfold numchk
 rw [if_neg (fun x => x hc), if_neg (by omega)]
theorem eb_ok : BdI eb where
 sz := ⟨by decide, by decide, by decide, by decide, by decide, by decide, by decide, by decide, by decide⟩
 f1 := by decide
 f2 := by decide
 c1 := by decide
 c2 := by decide
 kd := rfl
 ok := { id := by decide, kind := by decide, cur := by decide, places := by decide, issued := by unfold okDay; decide, matures := .inr ⟨by decide, by unfold okDay; decide, by decide⟩, n1 := eb_n 1000 eb_f (by kernel_rfl) (by kernel_rfl) (by decide) (by decide), n2 := eb_n (mkRat 3 50) eb_c (by kernel_rfl) (by kernel_rfl) (by decide) (by decide), n3 := eb_n 0 (by kernel_rfl) (by kernel_rfl) (by kernel_rfl) (by decide) (by decide), plain := fun h => absurd rfl h, bond := fun _ => ⟨by decide, by decide, by decide, by decide, by decide, rfl, by decide⟩, fwd := fun h => absurd h (by decide) }
theorem d_issued : VDate 2024 1 15 ∧ dayOf 2024 1 15 = 19737 := by unfold VDate lenB leapB; decide
theorem d_jul : VDate 2024 7 15 ∧ dayOf 2024 7 15 = 19919 := by unfold VDate lenB leapB; decide
theorem d_mat : VDate 2025 1 15 ∧ dayOf 2025 1 15 = 20103 := by unfold VDate lenB leapB; decide
theorem d_apr : VDate 2024 4 15 ∧ dayOf 2024 4 15 = 19828 := by unfold VDate lenB leapB; decide
theorem eb_dk : dK 20103 = 24300 ∧ dD 20103 = 15 := dK_eq d_mat.1 d_mat.2
theorem eb_cuts : cuts 19737 20103 6 = [19919] := by
 have a1 : addM 20103 (-((1 : Nat) * (6 : Int))) = some 19919 := by
  unfold addM
  rw [eb_dk.1, eb_dk.2, if_pos (by decide), kDay_of]
  have e : dayOf (kY (24300 + -((1 : Nat) * (6 : Int)))) (kM (24300 + -((1 : Nat) * (6 : Int)))) (min 15 (kL (24300 + -((1 : Nat) * (6 : Int))))) = 19919 := by decide
  rw [e]
 have a2 : addM 20103 (-((2 : Nat) * (6 : Int))) = some 19737 := by
  unfold addM
  rw [eb_dk.1, eb_dk.2, if_pos (by decide), kDay_of]
  have e : dayOf (kY (24300 + -((2 : Nat) * (6 : Int)))) (kM (24300 + -((2 : Nat) * (6 : Int)))) (min 15 (kL (24300 + -((2 : Nat) * (6 : Int))))) = 19737 := by decide
  rw [e]
 have c1 : cutAt 19737 20103 6 1 = some 19919 := cutAt_of a1 (by decide)
 have c2 : cutAt 19737 20103 6 2 = none := cutAt_none (fun d hd => by
  have hd' : addM 20103 (-((2 : Nat) * (6 : Int))) = some d := hd
  rw [a2] at hd'
  injection hd' with hd'
  omega)
 have n0 := cuts_next (a := 19737) (b := 20103) (mo := 6) (by decide) (i := 0) (Nat.zero_le _)
 rw [show 0 + 1 = 1 from rfl, c1] at n0
 have hl : 1 ≤ (cuts 19737 20103 6).length := (List.getElem?_eq_some_iff.1 n0).1
 have n1 := cuts_next (a := 19737) (b := 20103) (mo := 6) (by decide) (i := 1) hl
 rw [show 1 + 1 = 2 from rfl, c2] at n1
 have hl2 : (cuts 19737 20103 6).length ≤ 1 := List.getElem?_eq_none_iff.1 n1
 generalize cuts 19737 20103 6 = l at n0 hl hl2
 match l, n0, hl2 with
 | [x], n0, _ => simp at n0; rw [n0]
theorem eb_per : perL eb = [(19737, 19919), (19919, 20103)] := by
 show pers 19737 20103 6 = _
 unfold pers ends
 rw [eb_cuts]
 rfl
theorem eb_few : (cuts eb.issued eb.matures eb.months).length ≤ 399 := by
 show (cuts 19737 20103 6).length ≤ 399
 rw [eb_cuts]
 decide
theorem eb_y1 : dcF 3 19737 19919 = mkRat 1 2 := by
 unfold dcF
 rw [if_neg (by decide), if_neg (by decide), if_neg (by decide), days30_eq d_issued.1 d_issued.2 d_jul.1 d_jul.2, show d30 3 2024 1 15 2024 7 15 = 180 from by decide]
 kernel_rfl
theorem eb_y2 : dcF 3 19919 20103 = mkRat 1 2 := by
 unfold dcF
 rw [if_neg (by decide), if_neg (by decide), if_neg (by decide), days30_eq d_jul.1 d_jul.2 d_mat.1 d_mat.2, show d30 3 2024 7 15 2025 1 15 = 180 from by decide]
 kernel_rfl
theorem eb_y3 : dcF 3 19737 19828 = mkRat 1 4 := by
 unfold dcF
 rw [if_neg (by decide), if_neg (by decide), if_neg (by decide), days30_eq d_issued.1 d_issued.2 d_apr.1 d_apr.2, show d30 3 2024 1 15 2024 4 15 = 90 from by decide]
 kernel_rfl
theorem eb_int {a b : Int} {q : Rat} (h : dcF 3 a b = q) : intQ eb a b = 1000 * mkRat 3 50 * q := by
 unfold intQ
 rw [eb_f, eb_c]
 show _ * dcF 3 a b = _
 rw [h]
theorem eb_p0 : (perL eb)[0]? = some (19737, 19919) := by rw [eb_per]; rfl
theorem eb_p1 : (perL eb)[1]? = some (19919, 20103) := by rw [eb_per]; rfl
theorem eb_len : (perL eb).length = 2 := by rw [eb_per]; rfl
theorem eb_c0 : coupQ eb 0 = 30 := by rw [coupQ_eq eb_p0, eb_int eb_y1]; kernel_rfl
theorem eb_c1 : coupQ eb 1 = 30 := by rw [coupQ_eq eb_p1, eb_int eb_y2]; kernel_rfl
theorem eb_acc : accQ eb 19828 = 15 := by rw [acc_per eb_ok eb_p0 (by decide) (by decide), eb_int eb_y3]; kernel_rfl
theorem eb_flows : flowsL eb = [(19919, 30), (20103, 1030)] := by
 unfold flowsL
 rw [eb_len, show (2 : Nat) = 0 + 1 + 1 from rfl, paysN_succ, paysN_succ, flowsOf_snoc, flowsOf_snoc]
 have p0 : payAt eb (perL eb) 0 = (19737, 19919, 30) := by
  have e := payAt_2 eb 0
  rw [eb_c0, eb_len, if_neg (by decide), Rat.add_zero] at e
  exact Prod.ext (payAt_1 eb_p0).1 (Prod.ext (payAt_1 eb_p0).2 e)
 have p1 : payAt eb (perL eb) 1 = (19919, 20103, 1030) := by
  have e := payAt_2 eb 1
  rw [eb_c1, eb_len, if_pos (by decide), eb_f] at e
  exact Prod.ext (payAt_1 eb_p1).1 (Prod.ext (payAt_1 eb_p1).2 (e.trans (by kernel_rfl)))
 rw [p0, p1, if_neg (by decide), if_neg (by decide)]
 rfl
theorem eb_cc : ∀ j, j < (perL eb).length → coupQ eb j = 30 := by
 intro j hj
 rw [eb_len] at hj
 rcases (show j = 0 ∨ j = 1 by omega) with rfl | rfl
 ·exact eb_c0
 ·exact eb_c1
theorem eb_rate : (30 : Rat) / fv eb.fn eb.fd = mkRat 3 100 := by rw [eb_f]; kernel_rfl
theorem eb_pres0 : presQ eb 19737 (mkRat 3 100) = 1000 := by
 have := pres_par eb_ok eb_p0 eb_cc
 rw [eb_rate, eb_f] at this
 exact this
theorem eb_pres1 : presQ eb 19919 (mkRat 3 100) = 1000 := by
 have := pres_par eb_ok eb_p1 eb_cc
 rw [eb_rate, eb_f] at this
 exact this
end Go.Proofs.YtnnjgpgccifknaaGreatDoor
