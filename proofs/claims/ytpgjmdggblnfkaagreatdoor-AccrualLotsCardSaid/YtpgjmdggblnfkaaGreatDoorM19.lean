/-
  The walk of trancheref02.reduced (short numbers).
  The walk of trancheref01.minus.
  The walks of trancheref01.add, Add, Sub. (Printed by gen_ref25.py.)
  The walk of trancheref01.divide.
-/
import Derived.Test.YtpgjmdggblnfkaaGreatDoorM14
import Derived.Test.YtpgjmdggblnfkaaGreatDoorM17
import Derived.Test.YtpgjmdggblnfkaaGreatDoorM18
import Derived.Test.YtpgjmdggblnfkaaGreatDoorM12
set_option linter.unusedVariables false
set_option linter.unusedSimpArgs false
set_option maxHeartbeats 16000000
set_option maxRecDepth 100000
namespace Go.Proofs.YtpgjmdggblnfkaaGreatDoor
open Go.RowKit Tr
theorem rreduced_short (n d : ByteArray) (ha : n.size ≤ 1000000) (hb : d.size ≤ 1000000) (hx : (vl n).natAbs < 100000000000000000) (hy : (vl d).natAbs < 100000000000000000) (hp : 0 < vl d) (w : World) :
 Calls Tryz.prog 169 #[.string n, .string d] w fun e w' => e = .returned (fenc (Rat.divInt (vl n) (vl d))) ∧ Below w.heap.size w w' := by
 have HZ := Lib.hid (rzero_any n ha)
 have HB := Lib.hid ((Below.refl _ w).alloc (Nat.le_refl _) (Obj.cells #[.string ⟨#[]⟩, .string ⟨#[]⟩] 25))
 by_cases h0 : vl n = 0
 ·rw [h0] at HZ
  have HR : Hid (fenc (Rat.divInt (vl n) (vl d)) = .agg #[.string ⟨#[]⟩, .string ⟨#[]⟩]) := by
   show _ = _
   rw [h0, Rat.zero_divInt]; kernel_rfl
  clear h0 ha hb hx hy hp
  obtain ⟨W0, hW0⟩ : ∃ W0, w.alloc (Obj.cells #[.string ⟨#[]⟩, .string ⟨#[]⟩] 25) = W0 := ⟨_, rfl⟩
  have k1 : W0.heap[w.heap.size]? = some (Obj.cells #[.string ⟨#[]⟩, .string ⟨#[]⟩] 25) := by rw [← hW0]; exact heap_alloc_new w _
  have a0 := Lib.cell_of_heap k1 0
  have a1 := Lib.cell_of_heap k1 1
  simp at a0 a1
  have f0 := Lib.frozen_of_heap k1 0
  have f1 := Lib.frozen_of_heap k1 1
  have K1 := Lib.hid k1
  rw [hW0] at HB
  clear k1
  go_enter Tryz.func169, Tryz.ntmps169
  go_wp2_with fail
  try rw [hW0]
  refine (HZ.out _).mono ?_
  rintro e w1 ⟨rfl, rfl⟩
  go_wp2_with fail
  have k2 := set2 K1.out (.string ⟨#[]⟩) (.string ⟨#[]⟩)
  have m0 := Lib.cell_of_heap k2 0
  have m1 := Lib.cell_of_heap k2 1
  simp at m0 m1
  refine bodyPost_ret (v := .agg #[.string ⟨#[]⟩, .string ⟨#[]⟩]) (by simp [results, Tryz.results169, go_sem, m0, m1]) rfl ?_
  exact ⟨by rw [HR.out], (HB.out.setCell (p := ⟨w.heap.size, 0, none⟩) (Nat.le_refl _) _).setCell (p := ⟨w.heap.size, 1, none⟩) (Nat.le_refl _) _⟩
 have hz : (vl n == 0) = false := by rw [beq_eq_false_iff_ne]; exact h0
 have HG := Lib.hid (rGcd_short n d ha hb hx hy)
 have hgp : 0 < Int.gcd (vl n) (vl d) := Int.gcd_pos_of_ne_zero_right _ (by omega)
 have hgl : Int.gcd (vl n) (vl d) ≤ (vl d).natAbs := Nat.le_of_dvd (by omega) (Int.gcd_dvd_natAbs_right _ _)
 have gs : (I ((Int.gcd (vl n) (vl d) : Nat) : Int)).size ≤ 1000000 := Nat.le_trans (I_size_le (k := 17) (by rw [Int.natAbs_natCast]; omega)) (by decide)
 have e1 : vl n / ((Int.gcd (vl n) (vl d) : Nat) : Int) = (Rat.divInt (vl n) (vl d)).num := by rw [← red_num hp, dq_pos (by omega)]
 have e2 : vl d / ((Int.gcd (vl n) (vl d) : Nat) : Int) = ((Rat.divInt (vl n) (vl d)).den : Int) := by rw [← red_den hp, dq_pos (by omega)]
 have HE1 := fun W => rexact_short n (I ((Int.gcd (vl n) (vl d) : Nat) : Int)) ha gs hx (by rw [vl_I, Int.natAbs_natCast]; omega) (by rw [vl_I]; omega) W
 have HE2 := fun W => rexact_short d (I ((Int.gcd (vl n) (vl d) : Nat) : Int)) hb gs hy (by rw [vl_I, Int.natAbs_natCast]; omega) (by rw [vl_I]; omega) W
 rw [vl_I, e1] at HE1
 rw [vl_I, e2] at HE2
 have hdl : ((Rat.divInt (vl n) (vl d)).den : Int).natAbs < 10 ^ 17 := by
  rw [← e2, Int.natAbs_ediv_of_nonneg (by omega)]
  exact Nat.lt_of_le_of_lt (Nat.div_le_self _ _) (by omega)
 have HE1 := Lib.hid HE1
 have HE2 := Lib.hid HE2
 change Hid (∀ w, Calls Tryz.prog 210 #[.string n, .string d] w fun e w' => e = .returned (.string (I ((Int.gcd (vl n) (vl d) : Nat) : Int))) ∧ Below w.heap.size w w') at HG
 clear ha hb hx hy hp h0 hgp hgl gs e1 e2
 generalize Int.gcd (vl n) (vl d) = g at *
 generalize Rat.divInt (vl n) (vl d) = q at *
 have zd : (I (q.den : Int)).size ≤ 1000000 := Nat.le_trans (I_size_le hdl) (by decide)
 have HC := fun W => rCompare_any (I (q.den : Int)) one1 zd (by decide) W
 rw [vl_I, show vl one1 = 1 from by rw [one1_eq, vl_I]] at HC
 clear hdl zd
 obtain ⟨W0, hW0⟩ : ∃ W0, w.alloc (Obj.cells #[.string ⟨#[]⟩, .string ⟨#[]⟩] 25) = W0 := ⟨_, rfl⟩
 have hk : W0.heap[w.heap.size]? = some (Obj.cells #[.string ⟨#[]⟩, .string ⟨#[]⟩] 25) := by rw [← hW0]; exact heap_alloc_new w _
 rw [hW0] at HB
 have HK := Lib.hid hk
 clear hk
 go_enter Tryz.func169, Tryz.ntmps169
 go_wp2_with fail
 try rw [hW0]
 refine (HZ.out _).mono ?_
 rintro e w1 ⟨rfl, rfl⟩
 go_wp2_with fail
 refine (HG.out _).mono ?_
 rintro e w1 ⟨rfl, b1⟩
 have HB1 := Lib.hid b1
 clear b1
 go_wp2_with fail
 refine (HE1.out _).mono ?_
 rintro e w2 ⟨rfl, b2⟩
 have HB2 := Lib.hid b2
 clear b2
 go_wp2_with fail
 refine (HE2.out _).mono ?_
 rintro e w3 ⟨rfl, b3⟩
 have b13 := (HB1.out.trans (HB2.out.mono HB1.out.size)).trans (b3.mono (Nat.le_trans HB1.out.size HB2.out.size))
 have k3 := (b13.block _ (Array.getElem?_eq_some_iff.1 HK.out).1).trans HK.out
 have hlt := (Array.getElem?_eq_some_iff.1 k3).1
 have ne3 : w3.heap.size ≠ w.heap.size := by omega
 have ne4 : w.heap.size ≠ w3.heap.size := by omega
 have HB3 := Lib.hid (HB.out.trans (b13.mono HB.out.size))
 have HW4 := Lib.hid ((Below.refl _ w3).alloc (Nat.le_refl _) (Obj.cells #[.string (I q.num), .string (I (q.den : Int))] 25))
 obtain ⟨W4, hW4⟩ : ∃ W4, w3.alloc (Obj.cells #[.string (I q.num), .string (I (q.den : Int))] 25) = W4 := ⟨_, rfl⟩
 have k4 : W4.heap[w3.heap.size]? = some (Obj.cells #[.string (I q.num), .string (I (q.den : Int))] 25) := by rw [← hW4]; exact heap_alloc_new w3 _
 rw [hW4] at HW4
 have k5 := (HW4.out.block _ hlt).trans k3
 have c0 := Lib.cell_of_heap k4 0
 have c1 := Lib.cell_of_heap k4 1
 have g1 := Lib.frozen_of_heap k4 1
 have a0 := Lib.cell_of_heap k5 0
 have a1 := Lib.cell_of_heap k5 1
 have f0 := Lib.frozen_of_heap k5 0
 have f1 := Lib.frozen_of_heap k5 1
 simp at c0 c1 a0 a1
 have HB4 := Lib.hid (HB3.out.trans (HW4.out.mono (Nat.le_of_lt hlt)))
 have K4 := Lib.hid k4
 have K5 := Lib.hid k5
 clear b3 b13 k3 k4 k5 HB HB1 HB2 HB3 HW4 HK HE1 HE2 HG HZ
 by_cases hq : q.den = 1
 ·rw [show cmpI (q.den : Int) 1 = 0 from cmpI_eq.2 (by omega)] at HC
  have HC := Lib.hid HC
  have HQ := Lib.hid hq
  clear hq
  go_wp2_with fail
  try rw [hW4]
  go_quiet ((first | (go_at_call 170; exact q_same (rone_any _)) | (go_at_call 182; exact q_same (HC.out _))))
  go_wp2_with fail
  have k6 : ((W4.drewN nq).setCell ⟨w3.heap.size, 1, none⟩ (.string ⟨#[]⟩)).heap[w.heap.size]? = some (Obj.cells #[.string ⟨#[]⟩, .string ⟨#[]⟩] 25) := (Below.heap_setCell _ _ _ _ (by simp; omega)).trans (by simpa using K5.out)
  have k2 := set2 k6 (.string (I q.num)) (.string ⟨#[]⟩)
  have m0 := Lib.cell_of_heap k2 0
  have m1 := Lib.cell_of_heap k2 1
  simp at m0 m1
  refine bodyPost_ret (v := .agg #[.string (I q.num), .string ⟨#[]⟩]) (by simp [results, Tryz.results169, go_sem, m0, m1]) rfl ?_
  refine ⟨?_, (Below.setCell (p := ⟨w.heap.size, 0, none⟩) ((below_drewN HB4.out nq).setCell (p := ⟨w3.heap.size, 1, none⟩) (by simp; omega) _) (Nat.le_refl _) _).setCell (p := ⟨w.heap.size, 1, none⟩) (Nat.le_refl _) _⟩
  unfold fenc dn
  rw [if_pos HQ.out]
 ·have hc1 : (cmpI (q.den : Int) 1 == 0) = false := by rw [beq_eq_false_iff_ne, Ne, cmpI_eq]; omega
  have HC := Lib.hid HC
  have HQ := Lib.hid hq
  clear hq
  go_wp2_with fail
  try rw [hW4]
  go_quiet ((first | (go_at_call 170; exact q_same (rone_any _)) | (go_at_call 182; exact q_same (HC.out _))))
  go_wp2_with fail
  have k6 : (W4.drewN nq).heap[w.heap.size]? = some (Obj.cells #[.string ⟨#[]⟩, .string ⟨#[]⟩] 25) := by simpa using K5.out
  have k2 := set2 k6 (.string (I q.num)) (.string (I (q.den : Int)))
  have m0 := Lib.cell_of_heap k2 0
  have m1 := Lib.cell_of_heap k2 1
  simp at m0 m1
  refine bodyPost_ret (v := .agg #[.string (I q.num), .string (I (q.den : Int))]) (by simp [results, Tryz.results169, go_sem, m0, m1]) rfl ?_
  refine ⟨?_, (Below.setCell (p := ⟨w.heap.size, 0, none⟩) (below_drewN HB4.out nq) (Nat.le_refl _) _).setCell (p := ⟨w.heap.size, 1, none⟩) (Nat.le_refl _) _⟩
  unfold fenc dn
  rw [if_neg HQ.out]
end Go.Proofs.YtpgjmdggblnfkaaGreatDoor
namespace Go.Proofs.YtpgjmdggblnfkaaGreatDoor
open Go.RowKit Tr Go.Shelf
def RDif (l n r : List Nat) : Prop := Dig r ∧ Norm r ∧ mval r = mval l - mval n ∧ r.length ≤ l.length
theorem RdN.drewN {w : World} {A : Option Addr} {l : List Nat} (h : RdN w A l) (k : Nat) : RdN (w.drewN k) A l := h.below (below_drewN (Below.refl _ _) k)
theorem rminus_any (A A' : Option Addr) (l n : List Nat) (c c' : Nat) (w : World) (b1 : l.length ≤ 1000000) (b2 : n.length ≤ l.length)
 (hc : l.length ≤ c) (hc' : n.length ≤ c') (hl : Dig l) (hn : Dig n) (hle : mval n ≤ mval l) (hr : RdN w A l) (hr' : RdN w A' n) :
 Calls Tryz.prog 215 #[.slice A l.length c, .slice A' n.length c'] w (OwnFPost w (RDif l n)) := by
 have HR := Lib.hid hr
 have HR' := Lib.hid hr'
 have HL := Lib.hid hl
 have HN := Lib.hid hn
 have HLE := Lib.hid hle
 clear hr hr' hl hn hle
 go_enter Tryz.func215, Tryz.ntmps215
 go_wp2_with fail
 have hO0 := own_empty w
 have hB0 : Below w.heap.size w (w.alloc (.cells #[] 3)) := (Below.refl _ _).alloc (Nat.le_refl _) _
 generalize w.alloc (.cells #[] 3) = w1 at hO0 hB0 ⊢
 go_loopw [5, 6, 7] (fun o cy i wr => ∃ (k q : Nat) (p : List Nat), (∃ ad co, o = .slice (some ad) k co) ∧ cy = .int .i64 (q : Int) ∧ i = .int .i64 (k : Int) ∧ q ≤ 1 ∧ k ≤ l.length ∧ MinusR l n k p q ∧ wr.ownsRow w.heap.size 3 1 o k (p.map V) ∧ Below w.heap.size w wr) (fun _ _ i _ => l.length - (intOf i).toNat)
 case atStart => exact ⟨0, 0, [], ⟨_, _, rfl⟩, rfl, rfl, by omega, by omega, ⟨rfl, Dig.nil, by simp [mval]⟩, hO0, hB0⟩
 case round =>
  obtain ⟨k, q, p, ⟨ao, co, rfl⟩, rfl, rfl, hq, hk, hp, hO, hB⟩ := hrel
  have HP := Lib.hid hp
  have HO := Lib.hid hO
  have HB := Lib.hid hB
  clear hp hO hB hO0 hB0
  rcases Nat.lt_or_ge k l.length with hlt | hge
  ·obtain ⟨ad, rfl, had, hcell⟩ := HR.out.below HB.out (by rintro rfl; simp at hlt)
   have ck := hcell k hlt
   have HG := Lib.hid (fun m => q_same (rgroup_any A' n c' k (wr.drewN m) (by omega) (by omega) hc' ((HR'.out.below HB.out).drewN m)))
   have d1 := HL.out.get k
   change gt l k < _ at d1
   have d2 := HN.out.get k
   change gt n k < _ at d2
   clear hcell had
   obtain ⟨i0, hi, hz0, hz1, hz2⟩ := info_parts Tryz.info_int
   obtain ⟨D, hD⟩ : ∃ D : Int, (gt l k : Int) - (gt n k : Int) - (q : Int) = D := ⟨_, rfl⟩
   by_cases hneg : D < 0
   ·obtain ⟨x, hx⟩ : ∃ x : Nat, D + 1000000000 = (x : Int) := ⟨(D + 1000000000).toNat, by omega⟩
    have t1 : decide (D < 0) = true := decide_eq_true hneg
    have HST := Lib.hid (HP.out.step 1 x (by omega) (by omega))
    have HS : Hid (∀ W : World, ∀ j u, [Value.int .i64 (x : Int)][j]? = some u → (W.alloc (.cells #[.int .i64 (x : Int)] 3)).cell? ((⟨W.heap.size, 0, none⟩ : Addr).add j) = some u) := fun W => row_new W #[.int .i64 (x : Int)] 3
    clear hneg
    go_wp2_with fail
    go_quiet ((go_at_call 234; exact HG.out _))
    have HO2 := Lib.hid (ownsRow_below HO.out (below_drewN (Below.refl _ _) nq))
    have HB2 := Lib.hid (below_drewN HB.out nq)
    generalize wr.drewN nq = w2 at HO2 HB2 ⊢
    clear HG HO HB ck
    go_wp2_with (at_builtin; refine wpList_append_own _ rfl _ _ 187 rfl w.heap.size 3 i0 (.int .i64 0) 1 8 Tryz.underlying187 hi hz0 hz1 hz2 rfl (by decide) _ _ _ rfl (HO2.out.alloc _) ⟨w2.heap.size, 0, none⟩ 1 1 [.int .i64 (x : Int)] rfl rfl (HS.out w2) (by simp [Value.oneCell']) (by unfold maxLen; omega) (by omega) (by have := HB2.out.size; simp; omega) ?_; intro v4 w4 hown4 hgrow4 _; have HO4 := Lib.hid hown4; have HG4 := Lib.hid hgrow4; clear hown4 hgrow4)
    go_roundw
    case rel =>
     have hlo := HO2.out.lt
     have hg := HG4.out
     have hbs := HB2.out.size
     refine ⟨k + 1, 1, p ++ [x], own_some HO4.out (by omega), rfl, by go_num, by omega, by omega, HST.out, ?_, ?_⟩
     ·rw [List.map_append]; exact HO4.out
     ·exact (HB2.out.alloc hbs _).grown hg (by simp; omega) (fun k hk => (hlo k hk).1)
    case measure => simp [intOf]; omega
   ·obtain ⟨x, hx⟩ : ∃ x : Nat, D = (x : Int) := ⟨D.toNat, by omega⟩
    have HST := Lib.hid (HP.out.step 0 x (by omega) (by omega))
    have HS : Hid (∀ W : World, ∀ j u, [Value.int .i64 (x : Int)][j]? = some u → (W.alloc (.cells #[.int .i64 (x : Int)] 3)).cell? ((⟨W.heap.size, 0, none⟩ : Addr).add j) = some u) := fun W => row_new W #[.int .i64 (x : Int)] 3
    clear hneg
    subst hx
    have t1 : decide ((x : Int) < 0) = false := decide_eq_false (by omega)
    go_wp2_with fail
    go_quiet ((go_at_call 234; exact HG.out _))
    have HO2 := Lib.hid (ownsRow_below HO.out (below_drewN (Below.refl _ _) nq))
    have HB2 := Lib.hid (below_drewN HB.out nq)
    generalize wr.drewN nq = w2 at HO2 HB2 ⊢
    clear HG HO HB ck
    go_wp2_with (at_builtin; refine wpList_append_own _ rfl _ _ 187 rfl w.heap.size 3 i0 (.int .i64 0) 1 8 Tryz.underlying187 hi hz0 hz1 hz2 rfl (by decide) _ _ _ rfl (HO2.out.alloc _) ⟨w2.heap.size, 0, none⟩ 1 1 [.int .i64 (x : Int)] rfl rfl (HS.out w2) (by simp [Value.oneCell']) (by unfold maxLen; omega) (by omega) (by have := HB2.out.size; simp; omega) ?_; intro v4 w4 hown4 hgrow4 _; have HO4 := Lib.hid hown4; have HG4 := Lib.hid hgrow4; clear hown4 hgrow4)
    go_roundw
    case rel =>
     have hlo := HO2.out.lt
     have hg := HG4.out
     have hbs := HB2.out.size
     refine ⟨k + 1, 0, p ++ [x], own_some HO4.out (by omega), rfl, by go_num, by omega, by omega, HST.out, ?_, ?_⟩
     ·rw [List.map_append]; exact HO4.out
     ·exact (HB2.out.alloc hbs _).grown hg (by simp; omega) (fun k hk => (hlo k hk).1)
    case measure => simp [intOf]; omega
  ·have hcx : decide ((k : Int) < (l.length : Int)) = false := by simp; omega
   have hkk : k = l.length := by omega
   subst hkk
   have hpl := HP.out.1
   have hRd := RdN.of_own HO.out
   have HRd := Lib.hid hRd
   have HV := Lib.hid (HP.out.done b2 HLE.out)
   have HTR := Lib.hid (fun W hW => rtrim_any (some ao) p co W (by omega) (by have := hRd.2.1; omega) hW)
   have HPL := Lib.hid hpl
   rw [hpl] at HTR
   clear hRd hpl
   go_wp2_with fail
   refine (HTR.out _ HRd.out.2.2).mono ?_
   rintro e wa ⟨rfl, rfl⟩
   go_wp2_with fail
   go_ret
   refine ⟨ao, Tr.cutz p, co, rfl, ?_, ⟨HP.out.2.1.cutz, norm_cutz p, by rw [mval_cutz]; exact HV.out, ?_⟩, own_fresh HO.out ao rfl, HRd.out.2.2.cutz, HB.out⟩
   ·have := cutz_length_le p; have := HRd.out; omega
   ·have := cutz_length_le p; have := HPL.out; omega
def RNm (w : World) (nb : Bool) (A : Option Addr) (l : List Nat) (c : Nat) (z : Int) (K : Nat) : Prop := Dig l ∧ Norm l ∧ sg nb (mval l) = z ∧ l.length ≤ c ∧ l.length ≤ K ∧ RdN w A l
theorem RNm.below {w w' : World} {nb : Bool} {A : Option Addr} {l : List Nat} {c : Nat} {z : Int} {K : Nat} (h : RNm w nb A l c z K) (hb : Below w.heap.size w w') : RNm w' nb A l c z K := ⟨h.1, h.2.1, h.2.2.1, h.2.2.2.1, h.2.2.2.2.1, h.2.2.2.2.2.below hb⟩
def RNumPost (w : World) (z : Int) (K : Nat) (e : Ending) (w' : World) : Prop := ∃ (nb : Bool) (A : Option Addr) (l : List Nat) (c : Nat), e = .returned (.agg #[.bool nb, .slice A l.length c]) ∧ RNm w' nb A l c z K ∧ Below w.heap.size w w'
theorem sg_same (nb : Bool) (a b : Nat) : sg nb a + sg nb b = sg nb (a + b) := by
 cases nb
 ·show (a : Int) + (b : Int) = ((a + b : Nat) : Int); omega
 ·show -(a : Int) + -(b : Int) = -((a + b : Nat) : Int); omega
theorem radd_same (n1 : Bool) (A1 A2 : Option Addr) (l1 l2 : List Nat) (c1 c2 : Nat) (z1 z2 : Int) (K : Nat) (w : World) (hK : K ≤ 500000) (h1 : RNm w n1 A1 l1 c1 z1 K) (h2 : RNm w n1 A2 l2 c2 z2 K) :
 Calls Tryz.prog 177 #[.agg #[.bool n1, .slice A1 l1.length c1], .agg #[.bool n1, .slice A2 l2.length c2]] w (RNumPost w (z1 + z2) (K + 1)) := by
 obtain ⟨W0, hW0, hB0, hz, k1, k2, k3⟩ := box3 w (.cells #[.bool n1, .slice A1 l1.length c1] 189) (.cells #[.bool n1, .slice A2 l2.length c2] 189) (.cells #[.bool false, .slice none 0 0] 189)
 have HZE : Hid (z1 + z2 = sg n1 (mval l1 + mval l2)) := by rw [Hid, ← h1.2.2.1, ← h2.2.2.1]; exact sg_same n1 _ _
 have HK : Hid (l1.length ≤ K ∧ l2.length ≤ K) := ⟨h1.2.2.2.2.1, h2.2.2.2.2.1⟩
 have HF := Lib.hid (fun (W : World) (hW : Below w.heap.size w W) => rplus_any A1 A2 l1 l2 c1 c2 W (by have := HK.out; omega) (by have := HK.out; omega) h1.2.2.2.1 h2.2.2.2.1 h1.1 h2.1 (h1.below hW).2.2.2.2.2 (h2.below hW).2.2.2.2.2)
 have E1 := k1
 have E2 := k2
 have E3 := Lib.hid k3
 have EB := Lib.hid hB0
 have EZ : Hid (W0.heap.size = w.heap.size + 3) := hz
 have c10 := Lib.cell_of_heap k1 0
 have c20 := Lib.cell_of_heap k2 0
 simp at c10 c20
 clear h1 h2 k1 k2 k3 hz hB0
 go_enter Tryz.func177, Tryz.ntmps177
 go_wp2_with fail
 rw [← hW0]
 go_wp2_with fail
 clear hW0 c10 c20
 have k0 := Lib.cell_of_heap E1 0
 have k1 := Lib.cell_of_heap E1 1
 have k2 := Lib.cell_of_heap E2 1
 simp at k0 k1 k2
 clear E1 E2
 go_region_held3 (fun W => W.cell? ⟨w.heap.size, 0, none⟩ = some (.bool n1) ∧ W.cell? ⟨w.heap.size, 1, none⟩ = some (.slice A1 l1.length c1) ∧ W.cell? ⟨w.heap.size + 1, 1, none⟩ = some (.slice A2 l2.length c2))
  (refine ⟨?_, ?_, ?_⟩ <;> first | assumption | (go_simp; done))
  (first
    | (go_at_call 213; refine (HF.out _ EB.out.drew).mono ?_; rintro e w1 ⟨A3, r3, c3, rfl, hc3, hS3, hA3, hR3, hb3⟩; have j0 : w1.cell? ⟨w.heap.size, 0, none⟩ = some (.bool n1) := (hb3.cell (by simp [EZ.out])).trans k0; have j1 : w1.cell? ⟨w.heap.size, 1, none⟩ = some (.slice A1 l1.length c1) := (hb3.cell (by simp [EZ.out])).trans k1; have j2 : w1.cell? ⟨w.heap.size + 1, 1, none⟩ = some (.slice A2 l2.length c2) := (hb3.cell (by simp [EZ.out])).trans k2; have j3 := (hb3.block (w.heap.size + 1 + 1) (by simp [EZ.out])).trans E3.out; have m0 := Lib.cell_of_heap j3 0; have m1 := Lib.cell_of_heap j3 1; have f0 := Lib.frozen_of_heap j3 0; have f1 := Lib.frozen_of_heap j3 1; clear j3; simp at m0 m1))
 go_wp2_with fail
 refine bodyPost_ret (v := .agg #[.bool n1, .slice (some A3) r3.length c3]) (by simp [results, Tryz.results177, go_sem, m0, m1]) rfl ?_
 have hz := EZ.out
 have hb0 := EB.out
 have hne : ∀ ad : Addr, some A3 = some ad → ad.block ≠ w.heap.size + 1 + 1 := fun ad e => by injection e with e; subst e; have := hA3; simp at this; omega
 refine ⟨n1, some A3, r3, c3, rfl, ⟨hS3.1, hS3.2.1, ?_, hc3, ?_, (hR3.far (p := ⟨w.heap.size + 1 + 1, 0, none⟩) hne _).far (p := ⟨w.heap.size + 1 + 1, 1, none⟩) hne _⟩, ?_⟩
 ·rw [hS3.2.2.1]; exact HZE.out.symm
 ·have := hS3.2.2.2; have := HK.out; omega
 ·exact ((hb0.drew.trans (hb3.mono (by simp; omega))).setCell (p := ⟨w.heap.size + 1 + 1, 0, none⟩) (by simp; omega) _).setCell (p := ⟨w.heap.size + 1 + 1, 1, none⟩) (by simp; omega) _
theorem radd_diff (n1 : Bool) (A1 A2 : Option Addr) (l1 l2 : List Nat) (c1 c2 : Nat) (z1 z2 : Int) (K : Nat) (w : World) (hK : K ≤ 500000) (h1 : RNm w n1 A1 l1 c1 z1 K) (h2 : RNm w (!n1) A2 l2 c2 z2 K) :
 Calls Tryz.prog 177 #[.agg #[.bool n1, .slice A1 l1.length c1], .agg #[.bool (!n1), .slice A2 l2.length c2]] w (RNumPost w (z1 + z2) (K + 1)) := by
 obtain ⟨W0, hW0, hB0, hz, k1, k2, k3⟩ := box3 w (.cells #[.bool n1, .slice A1 l1.length c1] 189) (.cells #[.bool (!n1), .slice A2 l2.length c2] 189) (.cells #[.bool false, .slice none 0 0] 189)
 have hnn : (n1 == !n1) = false := by cases n1 <;> rfl
 have hz12 : z1 + z2 = if mval l1 < mval l2 then sg (!n1) (mval l2 - mval l1) else sg n1 (mval l1 - mval l2) := by
  rw [← h1.2.2.1, ← h2.2.2.1]
  exact sg_diff n1 _ _
 have HK : Hid (l1.length ≤ K ∧ l2.length ≤ K) := ⟨h1.2.2.2.2.1, h2.2.2.2.2.1⟩
 have HC := Lib.hid (rorder_any A1 A2 l1 l2 c1 c2 W0 (by have := HK.out; omega) (by have := HK.out; omega) h1.1 h2.1 h1.2.1 h2.2.1 (h1.below hB0).2.2.2.2.2 (h2.below hB0).2.2.2.2.2)
 have HF1 := Lib.hid (fun (hle : mval l2 ≤ mval l1) (W : World) (hW : Below w.heap.size w W) => rminus_any A1 A2 l1 l2 c1 c2 W (by have := HK.out; omega) (len_of_le h1.1 h2.2.1 hle) h1.2.2.2.1 h2.2.2.2.1 h1.1 h2.1 hle (h1.below hW).2.2.2.2.2 (h2.below hW).2.2.2.2.2)
 have HF2 := Lib.hid (fun (hle : mval l1 ≤ mval l2) (W : World) (hW : Below w.heap.size w W) => rminus_any A2 A1 l2 l1 c2 c1 W (by have := HK.out; omega) (len_of_le h2.1 h1.2.1 hle) h2.2.2.2.1 h1.2.2.2.1 h2.1 h1.1 hle (h2.below hW).2.2.2.2.2 (h1.below hW).2.2.2.2.2)
 have HZ12 := Lib.hid hz12
 have K1 := Lib.hid k1
 have K2 := Lib.hid k2
 have K3 := Lib.hid k3
 have HB := Lib.hid hB0
 have HZ : Hid (W0.heap.size = w.heap.size + 3) := hz
 have c10 := Lib.cell_of_heap k1 0
 have c11 := Lib.cell_of_heap k1 1
 have c20 := Lib.cell_of_heap k2 0
 have c21 := Lib.cell_of_heap k2 1
 simp at c10 c11 c20 c21
 clear h1 h2 k1 k2 k3 hz hB0 hz12
 go_enter Tryz.func177, Tryz.ntmps177
 go_wp2_with fail
 rw [← hW0]
 refine HC.out.mono ?_
 rintro e w1 ⟨r, rfl, hs, q, rfl⟩
 have EB := Lib.hid (below_drewN HB.out q)
 have EZ : Hid ((W0.drewN q).heap.size = w.heap.size + 3) := HZ.out
 have E1 : (W0.drewN q).heap[w.heap.size]? = some (.cells #[.bool n1, .slice A1 l1.length c1] 189) := K1.out
 have E2 : (W0.drewN q).heap[w.heap.size + 1]? = some (.cells #[.bool (!n1), .slice A2 l2.length c2] 189) := K2.out
 have E3 : Hid ((W0.drewN q).heap[w.heap.size + 1 + 1]? = some (.cells #[.bool false, .slice none 0 0] 189)) := K3.out
 have HS := Lib.hid hs
 clear hW0 HC hs HB HZ K1 K2 K3 c10 c11 c20 c21
 generalize W0.drewN q = W1 at EB EZ E1 E2 E3 ⊢
 by_cases hlt : mval l1 < mval l2
 ·have hr0 := HS.out.1.2 hlt
  have hd : decide (0 ≤ r) = false := decide_eq_false (by omega)
  have HZE : Hid (z1 + z2 = sg (!n1) (mval l2 - mval l1)) := by rw [Hid, HZ12.out, if_pos hlt]
  have HF := Lib.hid (HF2.out (Nat.le_of_lt hlt))
  clear hr0 hlt HF1 HF2 HZ12
  go_wp2_with fail
  have k0 := Lib.cell_of_heap E2 0
  have k1 := Lib.cell_of_heap E2 1
  have k2 := Lib.cell_of_heap E1 1
  simp at k0 k1 k2
  clear E1 E2
  go_region_held3 (fun W => W.cell? ⟨w.heap.size + 1, 0, none⟩ = some (.bool (!n1)) ∧ W.cell? ⟨w.heap.size + 1, 1, none⟩ = some (.slice A2 l2.length c2) ∧ W.cell? ⟨w.heap.size, 1, none⟩ = some (.slice A1 l1.length c1))
   (refine ⟨?_, ?_, ?_⟩ <;> first | assumption | (go_simp; done))
   (first
     | (go_at_call 215; refine (HF.out _ EB.out.drew).mono ?_; rintro e w1 ⟨A3, r3, c3, rfl, hc3, hS3, hA3, hR3, hb3⟩; have j0 : w1.cell? ⟨w.heap.size + 1, 0, none⟩ = some (.bool (!n1)) := (hb3.cell (by simp [EZ.out])).trans k0; have j1 : w1.cell? ⟨w.heap.size + 1, 1, none⟩ = some (.slice A2 l2.length c2) := (hb3.cell (by simp [EZ.out])).trans k1; have j2 : w1.cell? ⟨w.heap.size, 1, none⟩ = some (.slice A1 l1.length c1) := (hb3.cell (by simp [EZ.out])).trans k2; have j3 := (hb3.block (w.heap.size + 1 + 1) (by simp [EZ.out])).trans E3.out; have m0 := Lib.cell_of_heap j3 0; have m1 := Lib.cell_of_heap j3 1; have f0 := Lib.frozen_of_heap j3 0; have f1 := Lib.frozen_of_heap j3 1; clear j3; simp at m0 m1))
  go_wp2_with fail
  refine bodyPost_ret (v := .agg #[.bool (!n1), .slice (some A3) r3.length c3]) (by simp [results, Tryz.results177, go_sem, m0, m1]) rfl ?_
  have hz := EZ.out
  have hb0 := EB.out
  have hne : ∀ ad : Addr, some A3 = some ad → ad.block ≠ w.heap.size + 1 + 1 := fun ad e => by injection e with e; subst e; have := hA3; simp at this; omega
  refine ⟨(!n1), some A3, r3, c3, rfl, ⟨hS3.1, hS3.2.1, ?_, hc3, ?_, (hR3.far (p := ⟨w.heap.size + 1 + 1, 0, none⟩) hne _).far (p := ⟨w.heap.size + 1 + 1, 1, none⟩) hne _⟩, ?_⟩
  ·rw [hS3.2.2.1]; exact HZE.out.symm
  ·have := hS3.2.2.2; have := HK.out; omega
  ·exact ((hb0.drew.trans (hb3.mono (by simp; omega))).setCell (p := ⟨w.heap.size + 1 + 1, 0, none⟩) (by simp; omega) _).setCell (p := ⟨w.heap.size + 1 + 1, 1, none⟩) (by simp; omega) _
 ·have hr0 : ¬ r < 0 := fun h => hlt (HS.out.1.1 h)
  have hd : decide (0 ≤ r) = true := decide_eq_true (by omega)
  have HZE : Hid (z1 + z2 = sg n1 (mval l1 - mval l2)) := by rw [Hid, HZ12.out, if_neg hlt]
  have HF := Lib.hid (HF1.out (Nat.le_of_not_lt hlt))
  clear hr0 hlt HF1 HF2 HZ12
  go_wp2_with fail
  have k0 := Lib.cell_of_heap E1 0
  have k1 := Lib.cell_of_heap E1 1
  have k2 := Lib.cell_of_heap E2 1
  simp at k0 k1 k2
  clear E1 E2
  go_region_held3 (fun W => W.cell? ⟨w.heap.size, 0, none⟩ = some (.bool n1) ∧ W.cell? ⟨w.heap.size, 1, none⟩ = some (.slice A1 l1.length c1) ∧ W.cell? ⟨w.heap.size + 1, 1, none⟩ = some (.slice A2 l2.length c2))
   (refine ⟨?_, ?_, ?_⟩ <;> first | assumption | (go_simp; done))
   (first
     | (go_at_call 215; refine (HF.out _ EB.out.drew).mono ?_; rintro e w1 ⟨A3, r3, c3, rfl, hc3, hS3, hA3, hR3, hb3⟩; have j0 : w1.cell? ⟨w.heap.size, 0, none⟩ = some (.bool n1) := (hb3.cell (by simp [EZ.out])).trans k0; have j1 : w1.cell? ⟨w.heap.size, 1, none⟩ = some (.slice A1 l1.length c1) := (hb3.cell (by simp [EZ.out])).trans k1; have j2 : w1.cell? ⟨w.heap.size + 1, 1, none⟩ = some (.slice A2 l2.length c2) := (hb3.cell (by simp [EZ.out])).trans k2; have j3 := (hb3.block (w.heap.size + 1 + 1) (by simp [EZ.out])).trans E3.out; have m0 := Lib.cell_of_heap j3 0; have m1 := Lib.cell_of_heap j3 1; have f0 := Lib.frozen_of_heap j3 0; have f1 := Lib.frozen_of_heap j3 1; clear j3; simp at m0 m1))
  go_wp2_with fail
  refine bodyPost_ret (v := .agg #[.bool n1, .slice (some A3) r3.length c3]) (by simp [results, Tryz.results177, go_sem, m0, m1]) rfl ?_
  have hz := EZ.out
  have hb0 := EB.out
  have hne : ∀ ad : Addr, some A3 = some ad → ad.block ≠ w.heap.size + 1 + 1 := fun ad e => by injection e with e; subst e; have := hA3; simp at this; omega
  refine ⟨n1, some A3, r3, c3, rfl, ⟨hS3.1, hS3.2.1, ?_, hc3, ?_, (hR3.far (p := ⟨w.heap.size + 1 + 1, 0, none⟩) hne _).far (p := ⟨w.heap.size + 1 + 1, 1, none⟩) hne _⟩, ?_⟩
  ·rw [hS3.2.2.1]; exact HZE.out.symm
  ·have := hS3.2.2.2; have := HK.out; omega
  ·exact ((hb0.drew.trans (hb3.mono (by simp; omega))).setCell (p := ⟨w.heap.size + 1 + 1, 0, none⟩) (by simp; omega) _).setCell (p := ⟨w.heap.size + 1 + 1, 1, none⟩) (by simp; omega) _
theorem radd_any (n1 n2 : Bool) (A1 A2 : Option Addr) (l1 l2 : List Nat) (c1 c2 : Nat) (z1 z2 : Int) (K : Nat) (w : World) (hK : K ≤ 500000) (h1 : RNm w n1 A1 l1 c1 z1 K) (h2 : RNm w n2 A2 l2 c2 z2 K) :
 Calls Tryz.prog 177 #[.agg #[.bool n1, .slice A1 l1.length c1], .agg #[.bool n2, .slice A2 l2.length c2]] w (RNumPost w (z1 + z2) (K + 1)) := by
 by_cases h : n2 = n1
 ·subst h; exact radd_same n2 A1 A2 l1 l2 c1 c2 z1 z2 K w hK h1 h2
 ·obtain rfl : n2 = !n1 := by cases n1 <;> cases n2 <;> simp_all
  exact radd_diff n1 A1 A2 l1 l2 c1 c2 z1 z2 K w hK h1 h2
theorem RReadPost.num {w w' : World} {a : ByteArray} {e : Ending} (h : RReadPost w a e w') : RNumPost w (vl a) (a.size + 1) e w' := by
 obtain ⟨A, l, c, rfl, ⟨h1, h2, h3, h4⟩, hc, hr, hb⟩ := h
 refine ⟨_, A, l, c, rfl, ⟨h1, h2, ?_, hc, by omega, hr⟩, hb⟩
 rw [h3]
 by_cases hn : vl a < 0
 ·rw [decide_eq_true hn]; show -((vl a).natAbs : Int) = vl a; omega
 ·rw [decide_eq_false hn]; show ((vl a).natAbs : Int) = vl a; omega
theorem digits_short {z : Int} (h : (digits z.natAbs).length ≤ 17) : z.natAbs < 100000000000000000 := (digits_length_le_iff 17 z.natAbs).1 h
theorem rAdd_any (a b : ByteArray) (ha : a.size ≤ 90000) (hb : b.size ≤ 90000) (w : World) :
 Calls Tryz.prog 130 #[.string a, .string b] w fun e w' => e = .returned (.string (I (vl a + vl b))) ∧ Below w.heap.size w w' := by
 obtain ⟨K, hK⟩ : ∃ K, K = max a.size b.size + 1 := ⟨_, rfl⟩
 have HR1 := Lib.hid (fun W => (rread_any a W (by omega)).mono fun _ _ h => h.num)
 have HR2 := Lib.hid (fun W => (rread_any b W (by omega)).mono fun _ _ h => h.num)
 have HKK := Lib.hid (show a.size + 1 ≤ K ∧ b.size + 1 ≤ K ∧ K ≤ 90001 by omega)
 by_cases h1 : (digits (vl a).natAbs).length ≤ 17
 ·by_cases h2 : (digits (vl b).natAbs).length ≤ 17
  ·have s1 := digits_short h1
   have s2 := digits_short h2
   have HA := Lib.hid (fun W => rshort_yes a (by omega) h1 W)
   have HB := Lib.hid (fun W => rshort_yes b (by omega) h2 W)
   have HOF := Lib.hid (fun W => rOf_any (vl a + vl b) (by omega) W)
   generalize vl a = m at *
   generalize vl b = n at *
   clear ha hb h1 h2 HR1 HR2 HKK hK
   go_enter Tryz.func130, Tryz.ntmps130
   go_wp2_with fail
   refine (HA.out _).mono ?_
   rintro e w1 ⟨rfl, rfl⟩
   go_wp2_with fail
   refine (HB.out _).mono ?_
   rintro e w1 ⟨rfl, rfl⟩
   go_wp2_with fail
   refine (HOF.out _).mono ?_
   rintro e w1 ⟨rfl, rfl⟩
   go_wp2_with fail
   go_ret
   exact ⟨rfl, Below.refl _ _⟩
  ·have HA := Lib.hid (fun W => rshort_yes a (by omega) h1 W)
   have HB := Lib.hid (fun W => rshort_no b (by omega) (by omega) W)
   clear ha hb h1 h2 hK
   go_enter Tryz.func130, Tryz.ntmps130
   go_wp2_with fail
   refine (HA.out _).mono ?_
   rintro e w1 ⟨rfl, rfl⟩
   go_wp2_with fail
   refine (HB.out _).mono ?_
   rintro e w1 ⟨rfl, rfl⟩
   go_wp2_with fail
   refine (HR1.out _).mono ?_
   rintro e w2 ⟨n1, A1, l1, c1, rfl, h1, b2⟩
   have H1 := Lib.hid h1
   have B2 := Lib.hid b2
   clear h1 b2
   go_wp2_with fail
   refine (HR2.out _).mono ?_
   rintro e w3 ⟨n2, A2, l2, c2, rfl, h2, b3⟩
   have H1' := Lib.hid (H1.out.below b3)
   have H2 := Lib.hid h2
   have B3 := Lib.hid (B2.out.trans (b3.mono B2.out.size))
   clear h2 b3 H1 B2
   have HAD := Lib.hid (radd_any n1 n2 A1 A2 l1 l2 c1 c2 (vl a) (vl b) K w3 (by have := HKK.out; omega) ⟨H1'.out.1, H1'.out.2.1, H1'.out.2.2.1, H1'.out.2.2.2.1, (by have := H1'.out.2.2.2.2.1; have := HKK.out; omega), H1'.out.2.2.2.2.2⟩ ⟨H2.out.1, H2.out.2.1, H2.out.2.2.1, H2.out.2.2.2.1, (by have := H2.out.2.2.2.2.1; have := HKK.out; omega), H2.out.2.2.2.2.2⟩)
   clear H1' H2 HR1 HR2
   go_wp2_with fail
   refine HAD.out.mono ?_
   rintro e w4 ⟨n3, A3, l3, c3, rfl, h3, b4⟩
   have HW := Lib.hid (rwrite_any n3 A3 l3 c3 w4 (by have := h3.2.2.2.2.1; have := HKK.out; omega) h3.2.2.2.1 h3.1 h3.2.2.2.2.2)
   have HZ : Hid ((if n3 = true then -(mval l3 : Int) else (mval l3 : Int)) = vl a + vl b) := by rw [Hid, ← h3.2.2.1]; cases n3 <;> rfl
   have B4 := Lib.hid (B3.out.trans (b4.mono B3.out.size))
   clear h3 b4 B3 HAD
   rw [HZ.out] at HW
   go_wp2_with fail
   refine HW.out.mono ?_
   rintro e w5 ⟨rfl, b5⟩
   have B5 := Lib.hid (B4.out.trans (b5.mono B4.out.size))
   clear b5 B4
   go_wp2_with fail
   go_ret
   exact ⟨rfl, B5.out⟩
 ·obtain ⟨m, also, HB, _⟩ := rshort_two b (by omega)
  have HA := Lib.hid (fun W => rshort_no a (by omega) (by omega) W)
  clear ha hb h1 hK
  go_enter Tryz.func130, Tryz.ntmps130
  go_wp2_with fail
  refine (HA.out _).mono ?_
  rintro e w1 ⟨rfl, rfl⟩
  go_wp2_with fail
  refine (HB.out _).mono ?_
  rintro e w1 ⟨rfl, rfl⟩
  go_wp2_with fail
  refine (HR1.out _).mono ?_
  rintro e w2 ⟨n1, A1, l1, c1, rfl, h1, b2⟩
  have H1 := Lib.hid h1
  have B2 := Lib.hid b2
  clear h1 b2
  go_wp2_with fail
  refine (HR2.out _).mono ?_
  rintro e w3 ⟨n2, A2, l2, c2, rfl, h2, b3⟩
  have H1' := Lib.hid (H1.out.below b3)
  have H2 := Lib.hid h2
  have B3 := Lib.hid (B2.out.trans (b3.mono B2.out.size))
  clear h2 b3 H1 B2
  have HAD := Lib.hid (radd_any n1 n2 A1 A2 l1 l2 c1 c2 (vl a) (vl b) K w3 (by have := HKK.out; omega) ⟨H1'.out.1, H1'.out.2.1, H1'.out.2.2.1, H1'.out.2.2.2.1, (by have := H1'.out.2.2.2.2.1; have := HKK.out; omega), H1'.out.2.2.2.2.2⟩ ⟨H2.out.1, H2.out.2.1, H2.out.2.2.1, H2.out.2.2.2.1, (by have := H2.out.2.2.2.2.1; have := HKK.out; omega), H2.out.2.2.2.2.2⟩)
  clear H1' H2 HR1 HR2
  go_wp2_with fail
  refine HAD.out.mono ?_
  rintro e w4 ⟨n3, A3, l3, c3, rfl, h3, b4⟩
  have HW := Lib.hid (rwrite_any n3 A3 l3 c3 w4 (by have := h3.2.2.2.2.1; have := HKK.out; omega) h3.2.2.2.1 h3.1 h3.2.2.2.2.2)
  have HZ : Hid ((if n3 = true then -(mval l3 : Int) else (mval l3 : Int)) = vl a + vl b) := by rw [Hid, ← h3.2.2.1]; cases n3 <;> rfl
  have B4 := Lib.hid (B3.out.trans (b4.mono B3.out.size))
  clear h3 b4 B3 HAD
  rw [HZ.out] at HW
  go_wp2_with fail
  refine HW.out.mono ?_
  rintro e w5 ⟨rfl, b5⟩
  have B5 := Lib.hid (B4.out.trans (b5.mono B4.out.size))
  clear b5 B4
  go_wp2_with fail
  go_ret
  exact ⟨rfl, B5.out⟩
theorem rSub_any (a b : ByteArray) (ha : a.size ≤ 80000) (hb : b.size ≤ 80000) (w : World) :
 Calls Tryz.prog 70 #[.string a, .string b] w fun e w' => e = .returned (.string (I (vl a - vl b))) ∧ Below w.heap.size w w' := by
 have HN := Lib.hid (fun W => rNeg_any b (by omega) W)
 have HA := Lib.hid (fun W => rAdd_any a (I (-vl b)) (by omega) (by have := I_size_le (z := -vl b) (k := b.size) (by rw [Int.natAbs_neg]; exact vl_lt b); omega) W)
 rw [vl_I] at HA
 clear ha hb
 go_enter Tryz.func70, Tryz.ntmps70
 go_wp2_with fail
 refine (HN.out _).mono ?_
 rintro e w1 ⟨rfl, rfl⟩
 go_wp2_with fail
 refine (HA.out _).mono ?_
 rintro e w2 ⟨rfl, b2⟩
 have HB := Lib.hid b2
 clear b2
 go_wp2_with fail
 go_ret
 exact ⟨by rw [Int.sub_eq_add_neg]; rfl, HB.out⟩
structure DivJ (l n : List Nat) (k : Nat) (Q R : List Nat) : Prop where
 len : Q.length = l.length
 dq : Dig Q
 dr : Dig R
 nr : Norm R
 q : mval (Q.drop k) = mval (l.drop k) / mval n
 r : mval R = mval (l.drop k) % mval n
theorem drop_cons_gt {l : List Nat} {j : Nat} (h : j < l.length) : l.drop j = gt l j :: l.drop (j + 1) := by
 rw [List.drop_eq_getElem_cons h]
 congr 1
 exact (getD_lt h).symm
theorem DivJ.step {l n : List Nat} {j : Nat} {Q R R' : List Nat} {p : Nat} (h : DivJ l n (j + 1) Q R) (hj : j < l.length) (hp : p = (gt l j + 1000000000 * mval R) / mval n) (hpb : p < 1000000000) (d : Dig R') (nn : Norm R') (hr : mval R' = (gt l j + 1000000000 * mval R) % mval n) : DivJ l n j (Q.set j p) R' := by
 have e : mval (l.drop j) = mval n * (1000000000 * (mval (l.drop (j + 1)) / mval n)) + (gt l j + 1000000000 * mval R) := by
  rw [drop_cons_gt hj, mval_cons, h.r]
  have := Nat.div_add_mod (mval (l.drop (j + 1))) (mval n)
  generalize mval (l.drop (j + 1)) = T at *
  have e2 : 1000000000 * T = 1000000000 * (mval n * (T / mval n)) + 1000000000 * (T % mval n) := by rw [← Nat.mul_add, this]
  rw [e2, Nat.mul_left_comm]
  omega
 have hjq : j < Q.length := by rw [h.len]; exact hj
 refine ⟨by rw [List.length_set]; exact h.len, h.dq.set j p hpb, d, nn, ?_, ?_⟩
 ·have e3 : (Q.set j p).drop j = p :: Q.drop (j + 1) := by
   rw [drop_cons_gt (by rw [List.length_set]; exact hjq), gt_set hjq]
   congr 1
   rw [List.drop_set_of_lt (by omega)]
  rw [e3, mval_cons, h.q, e]
  rcases Nat.eq_zero_or_pos (mval n) with h0 | h0
  ·rw [h0] at hp ⊢; simp at hp ⊢; omega
  ·rw [Nat.mul_add_div h0, hp]; omega
 ·rw [hr, e, Nat.mul_add_mod]
theorem digit_lt {x R n : Nat} (hx : x < 1000000000) (hr : R < n) : x + 1000000000 * R < (999999999 + 1) * n := by
 have := Nat.mul_le_mul_left 1000000000 (show R + 1 ≤ n by omega)
 omega
theorem RdN.far2 {w : World} {ad : Addr} {l : List Nat} (h : RdN w (some ad) l) {g j : Nat} (hp : ad.block ≠ g) (u : Value) : RdN (w.setCell ⟨g, j, none⟩ u) (some ad) l := h.far (p := ⟨g, j, none⟩) (fun ad' e => by injection e with e; subst e; exact hp) u
theorem OwnN.below {w w' : World} {g : Nat} {l : List Nat} (h : OwnN w g l) (hb : Below w.heap.size w w') : OwnN w' g l := (hb.block g h.lt).trans h
theorem RdN.single (w : World) (x : Nat) : RdN (w.alloc (.cells #[.int .i64 (x : Int)] 3)) (some ⟨w.heap.size, 0, none⟩) [x] := by
 have hk := heap_alloc_new w (.cells #[.int .i64 (x : Int)] 3)
 intro _
 refine ⟨_, rfl, (Array.getElem?_eq_some_iff.1 hk).1, fun j hj => ?_⟩
 have hj0 : j = 0 := by simp at hj; omega
 subst hj0
 exact Lib.cell_of_heap hk 0
structure DivW (w : World) (g : Nat) (Q : List Nat) (ad : Addr) (R : List Nat) (W : World) : Prop where
 own : OwnN W g Q
 rd : RdN W (some ad) R
 bel : Below w.heap.size w W
theorem DivW.below {w : World} {g : Nat} {Q : List Nat} {ad : Addr} {R : List Nat} {W W' : World} (h : DivW w g Q ad R W) (hb : Below W.heap.size W W') : DivW w g Q ad R W' := ⟨h.own.below hb, h.rd.below hb, h.bel.trans (hb.mono h.bel.size)⟩
def RDivPost (w : World) (l n : List Nat) (e : Ending) (w' : World) : Prop :=
 ∃ (a1 a2 : Addr) (q r : List Nat) (c1 c2 : Nat), e = .returned (.tuple #[.slice (some a1) q.length c1, .slice (some a2) r.length c2]) ∧ (Dig q ∧ Norm q ∧ mval q = mval l / mval n ∧ q.length ≤ l.length ∧ q.length ≤ c1) ∧ (Dig r ∧ Norm r ∧ mval r = mval l % mval n ∧ r.length ≤ n.length ∧ r.length ≤ c2) ∧ RdN w' (some a1) q ∧ RdN w' (some a2) r ∧ Below w.heap.size w w'
theorem rdivide_any (A A' : Option Addr) (l n : List Nat) (c c' : Nat) (w : World) (b1 : l.length ≤ 100000) (b2 : n.length ≤ 100000)
 (hc : l.length ≤ c) (hc' : n.length ≤ c') (hl : Dig l) (hn : Dig n) (nn : Norm n) (hne : 0 < mval n) (hr : RdN w A l) (hr' : RdN w A' n) :
 Calls Tryz.prog 233 #[.slice A l.length c, .slice A' n.length c'] w (RDivPost w l n) := by
 have HR := Lib.hid hr
 have HR' := Lib.hid hr'
 have HL := Lib.hid hl
 have HN := Lib.hid hn
 have HNN := Lib.hid nn
 have HNE := Lib.hid hne
 have hmk := fun W => make_runN (l.length : Int) (l.length : Int) l.length l.length rfl rfl (Nat.le_refl _) (by omega) W
 clear hr hr' hl hn nn hne
 go_enter Tryz.func233, Tryz.ntmps233
 go_wp2_with fail
 clear hmk
 have hO1 := OwnN.made w l.length
 have hB1 : Below w.heap.size w (w.alloc (.cells (zrowN l.length) 3)) := (Below.refl _ _).alloc (Nat.le_refl _) _
 have hs1 : (w.alloc (.cells (zrowN l.length) 3)).heap.size = w.heap.size + 1 := by simp
 generalize w.alloc (.cells (zrowN l.length) 3) = w1 at hO1 hB1 hs1 ⊢
 have hW2 : DivW w w.heap.size (List.replicate l.length 0) ⟨w1.heap.size, 0, none⟩ [] (w1.alloc (.cells #[] 3)) :=
  ⟨hO1.below ((Below.refl _ _).alloc (Nat.le_refl _) _), RdN.nil _ _, hB1.trans (((Below.refl _ _).alloc (Nat.le_refl _) _).mono hB1.size)⟩
 have HAD : Hid ((⟨w1.heap.size, 0, none⟩ : Addr).block ≠ w.heap.size) := by rw [Hid]; show w1.heap.size ≠ w.heap.size; omega
 have HW2 := Lib.hid hW2
 rw [hs1] at HW2 HAD
 generalize w1.alloc (.cells #[] 3) = w2 at HW2 ⊢
 generalize (⟨w.heap.size + 1, 0, none⟩ : Addr) = ad0 at HW2 HAD ⊢
 clear hO1 hB1 hs1 hW2
 go_loopw [7, 8] (fun rs i wr => ∃ (k : Nat) (Q R : List Nat) (ad : Addr) (cR : Nat), rs = .slice (some ad) R.length cR ∧ i = .int .i64 ((k : Int) - 1) ∧ k ≤ l.length ∧ DivJ l n k Q R ∧ R.length ≤ cR ∧ ad.block ≠ w.heap.size ∧ DivW w w.heap.size Q ad R wr) (fun _ i _ => (intOf i + 1).toNat)
 case atStart =>
  refine ⟨l.length, List.replicate l.length 0, [], ad0, 0, rfl, rfl, Nat.le_refl _, ⟨by simp, Dig.replicate _, Dig.nil, norm_nil, ?_, ?_⟩, by simp, HAD.out, HW2.out⟩
  ·rw [List.drop_of_length_le (by simp), List.drop_of_length_le (Nat.le_refl _)]; simp [mval]
  ·rw [List.drop_of_length_le (Nat.le_refl _)]; simp [mval]
 case round =>
  clear HW2 HAD
  obtain ⟨k, Q, R, ad, cR, rfl, rfl, hk, hJ, hcR, hadb, hW⟩ := hrel
  have HJ := Lib.hid hJ
  have HW := Lib.hid hW
  have HAD := Lib.hid hadb
  have hql := hJ.len
  clear hJ hW hadb
  rcases Nat.eq_zero_or_pos k with h0 | h0
  ·subst h0
   have HTR := Lib.hid (fun W hW => rtrim_any (some ⟨w.heap.size, 0, none⟩) Q l.length W (by omega) (by omega) hW)
   have HQL := Lib.hid hql
   rw [hql] at HTR
   clear hql
   go_wp2_with fail
   refine (HTR.out _ HW.out.own.rd).mono ?_
   rintro e wa ⟨rfl, rfl⟩
   go_wp2_with fail
   go_ret2
   have hJ := HJ.out
   have e1 := hJ.q
   have e2 := hJ.r
   rw [List.drop_zero, List.drop_zero] at e1
   rw [List.drop_zero] at e2
   have hrl : R.length ≤ n.length := by
    have hlt : mval R < mval n := by rw [e2]; exact Nat.mod_lt _ HNE.out
    exact len_of_le HN.out hJ.nr (Nat.le_of_lt hlt)
   refine ⟨⟨w.heap.size, 0, none⟩, ad, Tr.cutz Q, R, l.length, cR, rfl, ⟨hJ.dq.cutz, norm_cutz Q, by rw [mval_cutz]; exact e1, ?_, ?_⟩, ⟨hJ.dr, hJ.nr, e2, hrl, hcR⟩, HW.out.own.rd.cutz, HW.out.rd, HW.out.bel⟩
   ·have := cutz_length_le Q; have := HQL.out; omega
   ·have := cutz_length_le Q; have := HQL.out; omega
  ·obtain ⟨j, rfl⟩ : ∃ j, k = j + 1 := ⟨k - 1, by omega⟩
   obtain ⟨al, rfl, hal, hcell⟩ := HR.out.below HW.out.bel (by rintro rfl; simp at hk)
   have ck := hcell j (by omega)
   have hi1 : ((j + 1 : Nat) : Int) - 1 = (j : Int) := by omega
   rw [hi1]
   have d1 := HL.out.get j
   change gt l j < _ at d1
   clear hcell hal hi1 h0
   obtain ⟨x, hx⟩ : ∃ x, gt l j = x := ⟨_, rfl⟩
   rw [hx] at ck d1
   have HX := Lib.hid hx
   clear hx
   obtain ⟨i0, hi, hz0, hz1, hz2⟩ := info_parts Tryz.info_int
   have hOL : (wr.alloc (.cells #[.int .i64 (x : Int)] 3)).ownsRow wr.heap.size 3 1 (.slice (some ⟨wr.heap.size, 0, none⟩) 1 1) 1 [V x] := World.ownsRow_lit wr #[.int .i64 (x : Int)] 1 (Nat.le_refl _) (by unfold maxLen; omega) rfl
   have HOL := Lib.hid hOL
   have HSR : Hid (∀ i u, (R.map V)[i]? = some u → (wr.alloc (.cells #[.int .i64 (x : Int)] 3)).cell? (ad.add i) = some u) := fun i u hu => by
    have hRd := HW.out.rd.below ((Below.refl _ wr).alloc (Nat.le_refl _) (.cells #[.int .i64 (x : Int)] 3))
    obtain ⟨hil, he⟩ := List.getElem?_eq_some_iff.1 hu
    rw [List.length_map] at hil
    obtain ⟨ad', e1, _, hcl⟩ := hRd (by rintro rfl; simp at hil)
    injection e1 with e1
    subst e1
    rw [hcl i hil, ← he, List.getElem_map]
    unfold V gt
    rw [getD_lt hil]
   have hRl : R.length ≤ n.length := by
    have hlt : mval R < mval n := by rw [HJ.out.r]; exact Nat.mod_lt _ HNE.out
    exact len_of_le HN.out HJ.out.nr (Nat.le_of_lt hlt)
   clear hOL
   go_wp2_with (at_builtin; refine wpList_append_own _ rfl _ _ 187 rfl wr.heap.size 3 i0 (.int .i64 0) 1 8 Tryz.underlying187 hi hz0 hz1 hz2 rfl (by decide) _ _ _ rfl HOL.out ad R.length cR (R.map V) rfl (by simp) HSR.out (by simp [V, Value.oneCell']) (by unfold maxLen; omega) (by omega) (by simp) ?_; intro v4 w4 hown4 hgrow4 _; obtain ⟨ad4, c4, hv4⟩ := own_some hown4 (by omega); subst hv4; have HO4 := Lib.hid hown4; have HG4 := Lib.hid hgrow4; clear hown4 hgrow4)
   have hRd4 : RdN w4 (some ad4) (x :: R) ∧ (x :: R).length ≤ c4 := by
    have h1 : w4.ownsRow wr.heap.size 3 1 (.slice (some ad4) (1 + R.length) c4) (1 + R.length) ((x :: R).map V) := HO4.out
    have h2 := RdN.of_own h1
    exact ⟨h2.2.2, by rw [← h2.1]; exact h2.2.1⟩
   have hfr4 : wr.heap.size ≤ ad4.block := own_fresh HO4.out ad4 rfl
   have hb4 : Below wr.heap.size wr w4 := ((Below.refl _ wr).alloc (Nat.le_refl _) _).grown HG4.out (by simp) (fun k hk => by have := HOL.out.lt k hk; exact this.1)
   have e1R : 1 + R.length = (x :: R).length := by simp; omega
   rw [e1R]
   refine (rtrim_any (some ad4) (x :: R) c4 w4 (by simp; omega) hRd4.2 hRd4.1).mono ?_
   rintro e wa ⟨rfl, rfl⟩
   obtain ⟨R1, hR1⟩ : ∃ R1, Tr.cutz (x :: R) = R1 := ⟨_, rfl⟩
   rw [hR1]
   obtain ⟨T, hT⟩ : ∃ T, T = x + 1000000000 * mval R := ⟨_, rfl⟩
   obtain ⟨N, hN⟩ : ∃ N, N = mval n := ⟨_, rfl⟩
   have hgl : w.heap.size < wr.heap.size := HW.out.own.lt
   have HW4 : Hid (DivW w w.heap.size Q ad4 R1 w4) := by rw [Hid, ← hR1]; exact ⟨HW.out.own.below hb4, hRd4.1.cutz, HW.out.bel.trans (hb4.mono HW.out.bel.size)⟩
   have HAD4 : Hid (ad4.block ≠ w.heap.size) := by rw [Hid]; omega
   have HR1 : Hid (Dig R1 ∧ Norm R1 ∧ mval R1 = T ∧ R1.length ≤ c4 ∧ R1.length ≤ n.length + 1) := by
    rw [Hid, ← hR1]
    have := cutz_length_le (x :: R)
    have := hRd4.2
    refine ⟨(HJ.out.dr.cons d1).cutz, norm_cutz _, by rw [mval_cutz, mval_cons, hT], by omega, ?_⟩
    simp at this ⊢; omega
   have HTB : Hid (T < (999999999 + 1) * N) := by
    rw [Hid, hT, hN]
    exact digit_lt d1 (by rw [HJ.out.r]; exact Nat.mod_lt _ HNE.out)
   have HSTEP : Hid (∀ (R' : List Nat) (p : Nat), p = T / N → p < 1000000000 → Dig R' → Norm R' → mval R' = T % N → DivJ l n j (Q.set j p) R') := fun R' p h1 h2 h3 h4 h5 => HJ.out.step (by omega) (by rw [h1, hT, hN, HX.out]) h2 h3 h4 (by rw [h5, hT, hN, HX.out])
   have HNV : Hid (mval n = N ∧ 0 < N) := ⟨hN.symm, by rw [hN]; exact HNE.out⟩
   clear hT hN hR1 hRd4 hfr4 hb4 hgl e1R HG4 HO4 HOL HSR HJ HW HAD ck d1 hRl hcR hi hz0 hz1 hz2
   go_wp2_with fail
   go_loopw [9, 10] (fun lo hi wq => ∃ p q : Nat, lo = .int .i64 (p : Int) ∧ hi = .int .i64 (q : Int) ∧ p ≤ q ∧ q ≤ 999999999 ∧ p * N ≤ T ∧ T < (q + 1) * N ∧ DivW w w.heap.size Q ad4 R1 wq) (fun lo hi _ => (intOf hi - intOf lo).toNat)
   case atStart => exact ⟨0, 999999999, rfl, rfl, by omega, by omega, by omega, HTB.out, HW4.out⟩
   case round =>
    clear HW4
    obtain ⟨p, q, rfl, rfl, hpq, hq, hlo, hhi, hWq⟩ := hrel
    have HLO := Lib.hid hlo
    have HHI := Lib.hid hhi
    have HWQ := Lib.hid hWq
    clear hlo hhi hWq
    rcases Nat.lt_or_ge p q with hlt | hge
    ·have hcx : decide ((p : Int) < (q : Int)) = true := by simp; omega
     obtain ⟨m, hm⟩ : ∃ m, m = (p + q + 1) / 2 := ⟨_, rfl⟩
     have hmi : ((p : Int) + (q : Int) + 1) / 2 = (m : Int) := by omega
     have hmb : p < m ∧ m ≤ q := by omega
     have HTM := Lib.hid (rtimes_any A' (some ⟨wr.heap.size, 0, none⟩) n [m] c' 1 (wr.alloc (.cells #[.int .i64 (m : Int)] 3)) (by omega) (by simp) hc' (by simp) HN.out (Dig.nil.cons (by omega)) (HR'.out.below (HWQ.out.bel.trans (((Below.refl _ wr).alloc (Nat.le_refl _) _).mono HWQ.out.bel.size))) (RdN.single wr m))
     have HWA := Lib.hid (HWQ.out.below ((Below.refl _ wr).alloc (Nat.le_refl _) (.cells #[.int .i64 (m : Int)] 3)))
     clear hm
     go_wp2_with fail
     refine HTM.out.mono ?_
     rintro e w5 ⟨At, t, ct, rfl, hct, ⟨htl, hP⟩, hrt, b5⟩
     have HW5 := Lib.hid (HWA.out.below b5)
     have hmt : mval t = N * m := by rw [hP.2.2, mval_single, HNV.out.1]
     have HOR := Lib.hid (rorder_any At (some ad4) t R1 ct c4 w5 (by simp at htl; omega) (by have := HR1.out.2.2.2.2; omega) hP.1 HR1.out.1 hP.2.1 HR1.out.2.1 hrt HW5.out.rd)
     rw [hmt, HR1.out.2.2.1] at HOR
     clear hct htl hP hrt b5 HWA HTM HWQ hmt
     go_wp2_with fail
     refine HOR.out.mono ?_
     rintro e w6 ⟨r, rfl, hs, dq, rfl⟩
     have HW6 := Lib.hid (HW5.out.below (below_drewN (Below.refl _ _) dq))
     generalize w5.drewN dq = w6 at HW6 ⊢
     clear HW5 HOR
     by_cases hle : m * N ≤ T
     ·have t1 : decide (r ≤ 0) = true := decide_eq_true (by have := hs.2.1; rw [Nat.mul_comm N m] at this; omega)
      have HLE := Lib.hid hle
      clear hle hs
      go_wp2_with fail
      go_roundw
      case rel => exact ⟨m, q, rfl, rfl, by omega, by omega, HLE.out, HHI.out, HW6.out⟩
      case measure => simp [intOf]; omega
     ·have t1 : decide (r ≤ 0) = false := decide_eq_false (by have := hs.2.1; rw [Nat.mul_comm N m] at this; omega)
      have HLE := Lib.hid hle
      clear hle hs
      go_wp2_with fail
      go_roundw
      case rel => exact ⟨p, m - 1, rfl, congrArg _ (by omega), by omega, by omega, HLO.out, by rw [show m - 1 + 1 = m by omega]; have := HLE.out; omega, HW6.out⟩
      case measure => simp [intOf]; omega
    ·have hcx : decide ((p : Int) < (q : Int)) = false := by simp; omega
     have hqp : q = p := by omega
     subst hqp
     have hdiv : q = T / N := by
      refine (Nat.div_eq_of_lt_le ?_ ?_).symm
      ·exact HLO.out
      ·exact HHI.out
     have hmod : T % N = T - q * N := by
      have := Nat.div_add_mod T N
      rw [← hdiv, Nat.mul_comm] at this
      omega
     have HDV := Lib.hid hdiv
     have HMD := Lib.hid hmod
     have hcj := HWQ.out.own.cell (k := j) (by omega)
     have hfj := HWQ.out.own.frozen j
     have HWS : Hid (DivW w w.heap.size (Q.set j q) ad4 R1 (wr.setCell ⟨w.heap.size, j, none⟩ (.int .i64 (q : Int)))) := ⟨HWQ.out.own.set (by omega) q, HWQ.out.rd.far2 HAD4.out _, HWQ.out.bel.setCell (p := ⟨w.heap.size, j, none⟩) (Nat.le_refl _) _⟩
     clear hdiv hmod hpq
     go_upto_region 13 with fail
     generalize wr.setCell ⟨w.heap.size, j, none⟩ (.int .i64 (q : Int)) = w7 at HWS ⊢
     clear HWQ hcj hfj hge hcx HLO HHI
     have hjl : j < l.length := by omega
     rcases Nat.eq_zero_or_pos q with h0 | h0
     ·have t1 : decide ((0 : Int) < (q : Int)) = false := decide_eq_false (by omega)
      have t1' : decide (0 < q) = false := decide_eq_false (by omega)
      have HJ' : Hid (DivJ l n j (Q.set j q) R1) := HSTEP.out R1 q HDV.out (by omega) HR1.out.1 HR1.out.2.1 (by rw [HMD.out, HR1.out.2.2.1, h0]; omega)
      clear h0
      go_wp2_with fail
      go_roundw
      case rel => exact ⟨j, Q.set j q, R1, ad4, c4, rfl, by go_num, by omega, HJ'.out, HR1.out.2.2.2.1, HAD4.out, HWS.out⟩
      case measure => simp [intOf]
     ·have t1 : decide ((0 : Int) < (q : Int)) = true := decide_eq_true (by omega)
      have t1' : decide (0 < q) = true := decide_eq_true h0
      have HTM := Lib.hid (rtimes_any A' (some ⟨w7.heap.size, 0, none⟩) n [q] c' 1 (w7.alloc (.cells #[.int .i64 (q : Int)] 3)) (by omega) (by simp) hc' (by simp) HN.out (Dig.nil.cons (by omega)) (HR'.out.below (HWS.out.bel.trans (((Below.refl _ w7).alloc (Nat.le_refl _) _).mono HWS.out.bel.size))) (RdN.single w7 q))
      have HWA := Lib.hid (HWS.out.below ((Below.refl _ w7).alloc (Nat.le_refl _) (.cells #[.int .i64 (q : Int)] 3)))
      clear h0
      go_wp2_with fail
      refine HTM.out.mono ?_
      rintro e w5 ⟨At, t, ct, rfl, hct, ⟨htl, hP⟩, hrt, b5⟩
      have HW5 := Lib.hid (HWA.out.below b5)
      have hmt : mval t = N * q := by rw [hP.2.2, mval_single, HNV.out.1]
      have hle : mval t ≤ mval R1 := by
       rw [hmt, HR1.out.2.2.1, Nat.mul_comm, HDV.out]
       exact Nat.div_mul_le_self T N
      have HMI := Lib.hid (rminus_any (some ad4) At R1 t c4 ct w5 (by have := HR1.out.2.2.2.2; omega) (len_of_le HR1.out.1 hP.2.1 hle) HR1.out.2.2.2.1 hct HR1.out.1 hP.1 hle HW5.out.rd hrt)
      have HMT := Lib.hid hmt
      have hg5 : w.heap.size < w5.heap.size := HW5.out.own.lt
      have HG5 := Lib.hid hg5
      clear hct htl hP hrt b5 HWA HTM hmt hle hg5
      go_wp2_with fail
      refine HMI.out.mono ?_
      rintro e w6 ⟨ad6, r6, c6, rfl, hc6, hD6, hf6, hr6, b6⟩
      have HJ' : Hid (DivJ l n j (Q.set j q) r6) := HSTEP.out r6 q HDV.out (by omega) hD6.1 hD6.2.1 (by rw [hD6.2.2.1, HMT.out, HR1.out.2.2.1, HMD.out, Nat.mul_comm])
      have HW6 : Hid (DivW w w.heap.size (Q.set j q) ad6 r6 w6) := ⟨HW5.out.own.below b6, hr6, HW5.out.bel.trans (b6.mono HW5.out.bel.size)⟩
      have HF6 : Hid (r6.length ≤ c6 ∧ ad6.block ≠ w.heap.size) := ⟨hc6, by have := HG5.out; omega⟩
      clear hc6 hD6 hf6 hr6 b6 HMI HW5
      go_wp2_with fail
      go_roundw
      case rel => exact ⟨j, Q.set j q, r6, ad6, c6, rfl, by go_num, by omega, HJ'.out, HF6.out.1, HF6.out.2, HW6.out⟩
      case measure => simp [intOf]
end Go.Proofs.YtpgjmdggblnfkaaGreatDoor
