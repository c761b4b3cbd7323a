/-
  The walk of trancheref01.divide.
  The walk of trancheref01.Div (divisor positive, numbers of any length).
-/
import Derived.Test.YthmfkgcoocikjaaGreatDoorR43
set_option linter.unusedVariables false
set_option linter.unusedSimpArgs false
namespace Go.Proofs.YthmfkgcoocikjaaGreatDoor
open Go.RowKit Tr Go.Shelf
structure DivJ (l n : List Nat) (k : Nat) (Q R : List Nat) : Prop where
 len : Q.length = l.length
 dq : Dig Q
 dr : Dig R
 nr : Norm R
 q : mval (Q.drop k) = mval (l.drop k) / mval n
 r : mval R = mval (l.drop k) % mval n
theorem drop_cons_gt {l : List Nat} {j : Nat} (h : j < l.length) : l.drop j = gt l j :: l.drop (j + 1) := by
 rw [List.drop_eq_getElem_cons h]
 congr 1
 exact (getD_lt h).symm
theorem DivJ.step {l n : List Nat} {j : Nat} {Q R R' : List Nat} {p : Nat} (h : DivJ l n (j + 1) Q R) (hj : j < l.length) (hp : p = (gt l j + 1000000000 * mval R) / mval n) (hpb : p < 1000000000) (d : Dig R') (nn : Norm R') (hr : mval R' = (gt l j + 1000000000 * mval R) % mval n) : DivJ l n j (Q.set j p) R' := by
 have e : mval (l.drop j) = mval n * (1000000000 * (mval (l.drop (j + 1)) / mval n)) + (gt l j + 1000000000 * mval R) := by
  rw [drop_cons_gt hj, mval_cons, h.r]
  have := Nat.div_add_mod (mval (l.drop (j + 1))) (mval n)
  generalize mval (l.drop (j + 1)) = T at *
  have e2 : 1000000000 * T = 1000000000 * (mval n * (T / mval n)) + 1000000000 * (T % mval n) := by rw [← Nat.mul_add, this]
  rw [e2, Nat.mul_left_comm]
  omega
 have hjq : j < Q.length := by rw [h.len]; exact hj
 refine ⟨by rw [List.length_set]; exact h.len, h.dq.set j p hpb, d, nn, ?_, ?_⟩
 ·have e3 : (Q.set j p).drop j = p :: Q.drop (j + 1) := by
   rw [drop_cons_gt (by rw [List.length_set]; exact hjq), gt_set hjq]
   congr 1
   rw [List.drop_set_of_lt (by omega)]
  rw [e3, mval_cons, h.q, e]
  rcases Nat.eq_zero_or_pos (mval n) with h0 | h0
  ·rw [h0] at hp ⊢; simp at hp ⊢; omega
  ·rw [Nat.mul_add_div h0, hp]; omega
 ·rw [hr, e, Nat.mul_add_mod]
theorem digit_lt {x R n : Nat} (hx : x < 1000000000) (hr : R < n) : x + 1000000000 * R < (999999999 + 1) * n := by
 have := Nat.mul_le_mul_left 1000000000 (show R + 1 ≤ n by omega)
 omega
theorem RdN.far2 {w : World} {ad : Addr} {l : List Nat} (h : RdN w (some ad) l) {g j : Nat} (hp : ad.block ≠ g) (u : Value) : RdN (w.setCell ⟨g, j, none⟩ u) (some ad) l := h.far (p := ⟨g, j, none⟩) (fun ad' e => by injection e with e; subst e; exact hp) u
theorem OwnN.below {w w' : World} {g : Nat} {l : List Nat} (h : OwnN w g l) (hb : Below w.heap.size w w') : OwnN w' g l := (hb.block g h.lt).trans h
theorem RdN.single (w : World) (x : Nat) : RdN (w.alloc (.cells #[.int .i64 (x : Int)] 3)) (some ⟨w.heap.size, 0, none⟩) [x] := by
 have hk := heap_alloc_new w (.cells #[.int .i64 (x : Int)] 3)
 intro _
 refine ⟨_, rfl, (Array.getElem?_eq_some_iff.1 hk).1, fun j hj => ?_⟩
 have hj0 : j = 0 := by simp at hj; omega
 subst hj0
 exact Lib.cell_of_heap hk 0
structure DivW (w : World) (g : Nat) (Q : List Nat) (ad : Addr) (R : List Nat) (W : World) : Prop where
 own : OwnN W g Q
 rd : RdN W (some ad) R
 bel : Below w.heap.size w W
theorem DivW.below {w : World} {g : Nat} {Q : List Nat} {ad : Addr} {R : List Nat} {W W' : World} (h : DivW w g Q ad R W) (hb : Below W.heap.size W W') : DivW w g Q ad R W' := ⟨h.own.below hb, h.rd.below hb, h.bel.trans (hb.mono h.bel.size)⟩
def RDivPost (w : World) (l n : List Nat) (e : Ending) (w' : World) : Prop :=
 ∃ (a1 a2 : Addr) (q r : List Nat) (c1 c2 : Nat), e = .returned (.tuple #[.slice (some a1) q.length c1, .slice (some a2) r.length c2]) ∧ (Dig q ∧ Norm q ∧ mval q = mval l / mval n ∧ q.length ≤ l.length ∧ q.length ≤ c1) ∧ (Dig r ∧ Norm r ∧ mval r = mval l % mval n ∧ r.length ≤ n.length ∧ r.length ≤ c2) ∧ RdN w' (some a1) q ∧ RdN w' (some a2) r ∧ Below w.heap.size w w'
set_option maxHeartbeats 16000000 in
set_option maxRecDepth 100000 in
theorem rdivide_any (A A' : Option Addr) (l n : List Nat) (c c' : Nat) (w : World) (b1 : l.length ≤ 100000) (b2 : n.length ≤ 100000)
 (hc : l.length ≤ c) (hc' : n.length ≤ c') (hl : Dig l) (hn : Dig n) (nn : Norm n) (hne : 0 < mval n) (hr : RdN w A l) (hr' : RdN w A' n) :
 Calls Tryz.prog 236 #[.slice A l.length c, .slice A' n.length c'] w (RDivPost w l n) := by
 have HR := Lib.hid hr
 have HR' := Lib.hid hr'
 have HL := Lib.hid hl
 have HN := Lib.hid hn
 have HNN := Lib.hid nn
 have HNE := Lib.hid hne
 have hmk := fun W => make_runN (l.length : Int) (l.length : Int) l.length l.length rfl rfl (Nat.le_refl _) (by omega) W
 clear hr hr' hl hn nn hne
 go_enter Tryz.func236, Tryz.ntmps236
 go_wp2_with fail
 clear hmk
 have hO1 := OwnN.made w l.length
 have hB1 : Below w.heap.size w (w.alloc (.cells (zrowN l.length) 3)) := (Below.refl _ _).alloc (Nat.le_refl _) _
 have hs1 : (w.alloc (.cells (zrowN l.length) 3)).heap.size = w.heap.size + 1 := by simp
 generalize w.alloc (.cells (zrowN l.length) 3) = w1 at hO1 hB1 hs1 ⊢
 have hW2 : DivW w w.heap.size (List.replicate l.length 0) ⟨w1.heap.size, 0, none⟩ [] (w1.alloc (.cells #[] 3)) :=
  ⟨hO1.below ((Below.refl _ _).alloc (Nat.le_refl _) _), RdN.nil _ _, hB1.trans (((Below.refl _ _).alloc (Nat.le_refl _) _).mono hB1.size)⟩
 have HAD : Hid ((⟨w1.heap.size, 0, none⟩ : Addr).block ≠ w.heap.size) := by rw [Hid]; show w1.heap.size ≠ w.heap.size; omega
 have HW2 := Lib.hid hW2
 rw [hs1] at HW2 HAD
 generalize w1.alloc (.cells #[] 3) = w2 at HW2 ⊢
 generalize (⟨w.heap.size + 1, 0, none⟩ : Addr) = ad0 at HW2 HAD ⊢
 clear hO1 hB1 hs1 hW2
 go_loopw [7, 8] (fun rs i wr => ∃ (k : Nat) (Q R : List Nat) (ad : Addr) (cR : Nat), rs = .slice (some ad) R.length cR ∧ i = .int .i64 ((k : Int) - 1) ∧ k ≤ l.length ∧ DivJ l n k Q R ∧ R.length ≤ cR ∧ ad.block ≠ w.heap.size ∧ DivW w w.heap.size Q ad R wr) (fun _ i _ => (intOf i + 1).toNat)
 case atStart =>
  refine ⟨l.length, List.replicate l.length 0, [], ad0, 0, rfl, rfl, Nat.le_refl _, ⟨by simp, Dig.replicate _, Dig.nil, norm_nil, ?_, ?_⟩, by simp, HAD.out, HW2.out⟩
  ·rw [List.drop_of_length_le (by simp), List.drop_of_length_le (Nat.le_refl _)]; simp [mval]
  ·rw [List.drop_of_length_le (Nat.le_refl _)]; simp [mval]
 case round =>
  clear HW2 HAD
  obtain ⟨k, Q, R, ad, cR, rfl, rfl, hk, hJ, hcR, hadb, hW⟩ := hrel
  have HJ := Lib.hid hJ
  have HW := Lib.hid hW
  have HAD := Lib.hid hadb
  have hql := hJ.len
  clear hJ hW hadb
  rcases Nat.eq_zero_or_pos k with h0 | h0
  ·subst h0
   have HTR := Lib.hid (fun W hW => rtrim_any (some ⟨w.heap.size, 0, none⟩) Q l.length W (by omega) (by omega) hW)
   have HQL := Lib.hid hql
   rw [hql] at HTR
   clear hql
   go_wp2_with fail
   refine (HTR.out _ HW.out.own.rd).mono ?_
   rintro e wa ⟨rfl, rfl⟩
   go_wp2_with fail
   go_ret2
   have hJ := HJ.out
   have e1 := hJ.q
   have e2 := hJ.r
   rw [List.drop_zero, List.drop_zero] at e1
   rw [List.drop_zero] at e2
   have hrl : R.length ≤ n.length := by
    have hlt : mval R < mval n := by rw [e2]; exact Nat.mod_lt _ HNE.out
    exact len_of_le HN.out hJ.nr (Nat.le_of_lt hlt)
   refine ⟨⟨w.heap.size, 0, none⟩, ad, Tr.cutz Q, R, l.length, cR, rfl, ⟨hJ.dq.cutz, norm_cutz Q, by rw [mval_cutz]; exact e1, ?_, ?_⟩, ⟨hJ.dr, hJ.nr, e2, hrl, hcR⟩, HW.out.own.rd.cutz, HW.out.rd, HW.out.bel⟩
   ·have := cutz_length_le Q; have := HQL.out; omega
   ·have := cutz_length_le Q; have := HQL.out; omega
  ·obtain ⟨j, rfl⟩ : ∃ j, k = j + 1 := ⟨k - 1, by omega⟩
   obtain ⟨al, rfl, hal, hcell⟩ := HR.out.below HW.out.bel (by rintro rfl; simp at hk)
   have ck := hcell j (by omega)
   have hi1 : ((j + 1 : Nat) : Int) - 1 = (j : Int) := by omega
   rw [hi1]
   have d1 := HL.out.get j
   change gt l j < _ at d1
   clear hcell hal hi1 h0
   obtain ⟨x, hx⟩ : ∃ x, gt l j = x := ⟨_, rfl⟩
   rw [hx] at ck d1
   have HX := Lib.hid hx
   clear hx
   obtain ⟨i0, hi, hz0, hz1, hz2⟩ := info_parts Tryz.info_int
   have hOL : (wr.alloc (.cells #[.int .i64 (x : Int)] 3)).ownsRow wr.heap.size 3 1 (.slice (some ⟨wr.heap.size, 0, none⟩) 1 1) 1 [V x] := World.ownsRow_lit wr #[.int .i64 (x : Int)] 1 (Nat.le_refl _) (by unfold maxLen; omega) rfl
   have HOL := Lib.hid hOL
   have HSR : Hid (∀ i u, (R.map V)[i]? = some u → (wr.alloc (.cells #[.int .i64 (x : Int)] 3)).cell? (ad.add i) = some u) := fun i u hu => by
    have hRd := HW.out.rd.below ((Below.refl _ wr).alloc (Nat.le_refl _) (.cells #[.int .i64 (x : Int)] 3))
    obtain ⟨hil, he⟩ := List.getElem?_eq_some_iff.1 hu
    rw [List.length_map] at hil
    obtain ⟨ad', e1, _, hcl⟩ := hRd (by rintro rfl; simp at hil)
    injection e1 with e1
    subst e1
    rw [hcl i hil, ← he, List.getElem_map]
    unfold V gt
    rw [getD_lt hil]
   have hRl : R.length ≤ n.length := by
    have hlt : mval R < mval n := by rw [HJ.out.r]; exact Nat.mod_lt _ HNE.out
    exact len_of_le HN.out HJ.out.nr (Nat.le_of_lt hlt)
   clear hOL
   go_wp2_with (at_builtin; refine wpList_append_own _ rfl _ _ 112 rfl wr.heap.size 3 i0 (.int .i64 0) 1 8 Tryz.underlying112 hi hz0 hz1 hz2 rfl (by decide) _ _ _ rfl HOL.out ad R.length cR (R.map V) rfl (by simp) HSR.out (by simp [V, Value.oneCell']) (by unfold maxLen; omega) (by omega) (by simp) ?_; intro v4 w4 hown4 hgrow4 _; obtain ⟨ad4, c4, hv4⟩ := own_some hown4 (by omega); subst hv4; have HO4 := Lib.hid hown4; have HG4 := Lib.hid hgrow4; clear hown4 hgrow4)
   have hRd4 : RdN w4 (some ad4) (x :: R) ∧ (x :: R).length ≤ c4 := by
    have h1 : w4.ownsRow wr.heap.size 3 1 (.slice (some ad4) (1 + R.length) c4) (1 + R.length) ((x :: R).map V) := HO4.out
    have h2 := RdN.of_own h1
    exact ⟨h2.2.2, by rw [← h2.1]; exact h2.2.1⟩
   have hfr4 : wr.heap.size ≤ ad4.block := own_fresh HO4.out ad4 rfl
   have hb4 : Below wr.heap.size wr w4 := ((Below.refl _ wr).alloc (Nat.le_refl _) _).grown HG4.out (by simp) (fun k hk => by have := HOL.out.lt k hk; exact this.1)
   have e1R : 1 + R.length = (x :: R).length := by simp; omega
   rw [e1R]
   refine (rtrim_any (some ad4) (x :: R) c4 w4 (by simp; omega) hRd4.2 hRd4.1).mono ?_
   rintro e wa ⟨rfl, rfl⟩
   obtain ⟨R1, hR1⟩ : ∃ R1, Tr.cutz (x :: R) = R1 := ⟨_, rfl⟩
   rw [hR1]
   obtain ⟨T, hT⟩ : ∃ T, T = x + 1000000000 * mval R := ⟨_, rfl⟩
   obtain ⟨N, hN⟩ : ∃ N, N = mval n := ⟨_, rfl⟩
   have hgl : w.heap.size < wr.heap.size := HW.out.own.lt
   have HW4 : Hid (DivW w w.heap.size Q ad4 R1 w4) := by rw [Hid, ← hR1]; exact ⟨HW.out.own.below hb4, hRd4.1.cutz, HW.out.bel.trans (hb4.mono HW.out.bel.size)⟩
   have HAD4 : Hid (ad4.block ≠ w.heap.size) := by rw [Hid]; omega
   have HR1 : Hid (Dig R1 ∧ Norm R1 ∧ mval R1 = T ∧ R1.length ≤ c4 ∧ R1.length ≤ n.length + 1) := by
    rw [Hid, ← hR1]
    have := cutz_length_le (x :: R)
    have := hRd4.2
    refine ⟨(HJ.out.dr.cons d1).cutz, norm_cutz _, by rw [mval_cutz, mval_cons, hT], by omega, ?_⟩
    simp at this ⊢; omega
   have HTB : Hid (T < (999999999 + 1) * N) := by
    rw [Hid, hT, hN]
    exact digit_lt d1 (by rw [HJ.out.r]; exact Nat.mod_lt _ HNE.out)
   have HSTEP : Hid (∀ (R' : List Nat) (p : Nat), p = T / N → p < 1000000000 → Dig R' → Norm R' → mval R' = T % N → DivJ l n j (Q.set j p) R') := fun R' p h1 h2 h3 h4 h5 => HJ.out.step (by omega) (by rw [h1, hT, hN, HX.out]) h2 h3 h4 (by rw [h5, hT, hN, HX.out])
   have HNV : Hid (mval n = N ∧ 0 < N) := ⟨hN.symm, by rw [hN]; exact HNE.out⟩
   clear hT hN hR1 hRd4 hfr4 hb4 hgl e1R HG4 HO4 HOL HSR HJ HW HAD ck d1 hRl hcR hi hz0 hz1 hz2
   go_wp2_with fail
   go_loopw [9, 10] (fun lo hi wq => ∃ p q : Nat, lo = .int .i64 (p : Int) ∧ hi = .int .i64 (q : Int) ∧ p ≤ q ∧ q ≤ 999999999 ∧ p * N ≤ T ∧ T < (q + 1) * N ∧ DivW w w.heap.size Q ad4 R1 wq) (fun lo hi _ => (intOf hi - intOf lo).toNat)
   case atStart => exact ⟨0, 999999999, rfl, rfl, by omega, by omega, by omega, HTB.out, HW4.out⟩
   case round =>
    clear HW4
    obtain ⟨p, q, rfl, rfl, hpq, hq, hlo, hhi, hWq⟩ := hrel
    have HLO := Lib.hid hlo
    have HHI := Lib.hid hhi
    have HWQ := Lib.hid hWq
    clear hlo hhi hWq
    rcases Nat.lt_or_ge p q with hlt | hge
    ·have hcx : decide ((p : Int) < (q : Int)) = true := by simp; omega
     obtain ⟨m, hm⟩ : ∃ m, m = (p + q + 1) / 2 := ⟨_, rfl⟩
     have hmi : ((p : Int) + (q : Int) + 1) / 2 = (m : Int) := by omega
     have hmb : p < m ∧ m ≤ q := by omega
     have HTM := Lib.hid (rtimes_any A' (some ⟨wr.heap.size, 0, none⟩) n [m] c' 1 (wr.alloc (.cells #[.int .i64 (m : Int)] 3)) (by omega) (by simp) hc' (by simp) HN.out (Dig.nil.cons (by omega)) (HR'.out.below (HWQ.out.bel.trans (((Below.refl _ wr).alloc (Nat.le_refl _) _).mono HWQ.out.bel.size))) (RdN.single wr m))
     have HWA := Lib.hid (HWQ.out.below ((Below.refl _ wr).alloc (Nat.le_refl _) (.cells #[.int .i64 (m : Int)] 3)))
     clear hm
     go_wp2_with fail
     refine HTM.out.mono ?_
     rintro e w5 ⟨At, t, ct, rfl, hct, ⟨htl, hP⟩, hrt, b5⟩
     have HW5 := Lib.hid (HWA.out.below b5)
     have hmt : mval t = N * m := by rw [hP.2.2, mval_single, HNV.out.1]
     have HOR := Lib.hid (rorder_any At (some ad4) t R1 ct c4 w5 (by simp at htl; omega) (by have := HR1.out.2.2.2.2; omega) hP.1 HR1.out.1 hP.2.1 HR1.out.2.1 hrt HW5.out.rd)
     rw [hmt, HR1.out.2.2.1] at HOR
     clear hct htl hP hrt b5 HWA HTM HWQ hmt
     go_wp2_with fail
     refine HOR.out.mono ?_
     rintro e w6 ⟨r, rfl, hs, dq, rfl⟩
     have HW6 := Lib.hid (HW5.out.below (below_drewN (Below.refl _ _) dq))
     generalize w5.drewN dq = w6 at HW6 ⊢
     clear HW5 HOR
     by_cases hle : m * N ≤ T
     ·have t1 : decide (r ≤ 0) = true := decide_eq_true (by have := hs.2.1; rw [Nat.mul_comm N m] at this; omega)
      have HLE := Lib.hid hle
      clear hle hs
      go_wp2_with fail
      go_roundw
      case rel => exact ⟨m, q, rfl, rfl, by omega, by omega, HLE.out, HHI.out, HW6.out⟩
      case measure => simp [intOf]; omega
     ·have t1 : decide (r ≤ 0) = false := decide_eq_false (by have := hs.2.1; rw [Nat.mul_comm N m] at this; omega)
      have HLE := Lib.hid hle
      clear hle hs
      go_wp2_with fail
      go_roundw
      case rel => exact ⟨p, m - 1, rfl, congrArg _ (by omega), by omega, by omega, HLO.out, by rw [show m - 1 + 1 = m by omega]; have := HLE.out; omega, HW6.out⟩
      case measure => simp [intOf]; omega
    ·have hcx : decide ((p : Int) < (q : Int)) = false := by simp; omega
     have hqp : q = p := by omega
     subst hqp
     have hdiv : q = T / N := by
      refine (Nat.div_eq_of_lt_le ?_ ?_).symm
      ·exact HLO.out
      ·exact HHI.out
     have hmod : T % N = T - q * N := by
      have := Nat.div_add_mod T N
      rw [← hdiv, Nat.mul_comm] at this
      omega
     have HDV := Lib.hid hdiv
     have HMD := Lib.hid hmod
     have hcj := HWQ.out.own.cell (k := j) (by omega)
     have hfj := HWQ.out.own.frozen j
     have HWS : Hid (DivW w w.heap.size (Q.set j q) ad4 R1 (wr.setCell ⟨w.heap.size, j, none⟩ (.int .i64 (q : Int)))) := ⟨HWQ.out.own.set (by omega) q, HWQ.out.rd.far2 HAD4.out _, HWQ.out.bel.setCell (p := ⟨w.heap.size, j, none⟩) (Nat.le_refl _) _⟩
     clear hdiv hmod hpq
     go_upto_region 13 with fail
     generalize wr.setCell ⟨w.heap.size, j, none⟩ (.int .i64 (q : Int)) = w7 at HWS ⊢
     clear HWQ hcj hfj hge hcx HLO HHI
     have hjl : j < l.length := by omega
     rcases Nat.eq_zero_or_pos q with h0 | h0
     ·have t1 : decide ((0 : Int) < (q : Int)) = false := decide_eq_false (by omega)
      have t1' : decide (0 < q) = false := decide_eq_false (by omega)
      have HJ' : Hid (DivJ l n j (Q.set j q) R1) := HSTEP.out R1 q HDV.out (by omega) HR1.out.1 HR1.out.2.1 (by rw [HMD.out, HR1.out.2.2.1, h0]; omega)
      clear h0
      go_wp2_with fail
      go_roundw
      case rel => exact ⟨j, Q.set j q, R1, ad4, c4, rfl, by go_num, by omega, HJ'.out, HR1.out.2.2.2.1, HAD4.out, HWS.out⟩
      case measure => simp [intOf]
     ·have t1 : decide ((0 : Int) < (q : Int)) = true := decide_eq_true (by omega)
      have t1' : decide (0 < q) = true := decide_eq_true h0
      have HTM := Lib.hid (rtimes_any A' (some ⟨w7.heap.size, 0, none⟩) n [q] c' 1 (w7.alloc (.cells #[.int .i64 (q : Int)] 3)) (by omega) (by simp) hc' (by simp) HN.out (Dig.nil.cons (by omega)) (HR'.out.below (HWS.out.bel.trans (((Below.refl _ w7).alloc (Nat.le_refl _) _).mono HWS.out.bel.size))) (RdN.single w7 q))
      have HWA := Lib.hid (HWS.out.below ((Below.refl _ w7).alloc (Nat.le_refl _) (.cells #[.int .i64 (q : Int)] 3)))
      clear h0
      go_wp2_with fail
      refine HTM.out.mono ?_
      rintro e w5 ⟨At, t, ct, rfl, hct, ⟨htl, hP⟩, hrt, b5⟩
      have HW5 := Lib.hid (HWA.out.below b5)
      have hmt : mval t = N * q := by rw [hP.2.2, mval_single, HNV.out.1]
      have hle : mval t ≤ mval R1 := by
       rw [hmt, HR1.out.2.2.1, Nat.mul_comm, HDV.out]
       exact Nat.div_mul_le_self T N
      have HMI := Lib.hid (rminus_any (some ad4) At R1 t c4 ct w5 (by have := HR1.out.2.2.2.2; omega) (len_of_le HR1.out.1 hP.2.1 hle) HR1.out.2.2.2.1 hct HR1.out.1 hP.1 hle HW5.out.rd hrt)
      have HMT := Lib.hid hmt
      have hg5 : w.heap.size < w5.heap.size := HW5.out.own.lt
      have HG5 := Lib.hid hg5
      clear hct htl hP hrt b5 HWA HTM hmt hle hg5
      go_wp2_with fail
      refine HMI.out.mono ?_
      rintro e w6 ⟨ad6, r6, c6, rfl, hc6, hD6, hf6, hr6, b6⟩
      have HJ' : Hid (DivJ l n j (Q.set j q) r6) := HSTEP.out r6 q HDV.out (by omega) hD6.1 hD6.2.1 (by rw [hD6.2.2.1, HMT.out, HR1.out.2.2.1, HMD.out, Nat.mul_comm])
      have HW6 : Hid (DivW w w.heap.size (Q.set j q) ad6 r6 w6) := ⟨HW5.out.own.below b6, hr6, HW5.out.bel.trans (b6.mono HW5.out.bel.size)⟩
      have HF6 : Hid (r6.length ≤ c6 ∧ ad6.block ≠ w.heap.size) := ⟨hc6, by have := HG5.out; omega⟩
      clear hc6 hD6 hf6 hr6 b6 HMI HW5
      go_wp2_with fail
      go_roundw
      case rel => exact ⟨j, Q.set j q, r6, ad6, c6, rfl, by go_num, by omega, HJ'.out, HF6.out.1, HF6.out.2, HW6.out⟩
      case measure => simp [intOf]
end Go.Proofs.YthmfkgcoocikjaaGreatDoor
namespace Go.Proofs.YthmfkgcoocikjaaGreatDoor
open Go.RowKit Tr Go.Shelf
structure SD (w : World) (B3 B4 : Nat) (nq nr : Bool) (Aq Ar : Option Addr) (lq lr : List Nat) (cq cr : Nat) (zq zr : Int) (K : Nat) (W : World) : Prop where
 b3 : W.heap[B3]? = some (.cells #[.bool nq, .slice Aq lq.length cq] 114 (0, 0))
 b4 : W.heap[B4]? = some (.cells #[.bool nr, .slice Ar lr.length cr] 114 (0, 0))
 mq : RNm W nq Aq lq cq zq K
 mr : RNm W nr Ar lr cr zr K
 bel : Below w.heap.size w W
theorem SD.below {w : World} {B3 B4 : Nat} {nq nr : Bool} {Aq Ar : Option Addr} {lq lr : List Nat} {cq cr : Nat} {zq zr : Int} {K : Nat} {W W' : World} (h : SD w B3 B4 nq nr Aq Ar lq lr cq cr zq zr K W) (hb : Below W.heap.size W W') : SD w B3 B4 nq nr Aq Ar lq lr cq cr zq zr K W' :=
 ⟨(hb.block B3 (Array.getElem?_eq_some_iff.1 h.b3).1).trans h.b3, (hb.block B4 (Array.getElem?_eq_some_iff.1 h.b4).1).trans h.b4, h.mq.below hb, h.mr.below hb, h.bel.trans (hb.mono h.bel.size)⟩
theorem rwrite_nm {W : World} {nb : Bool} {A : Option Addr} {l : List Nat} {c : Nat} {z : Int} {K : Nat} (h : RNm W nb A l c z K) (hK : K ≤ 100000) :
 Calls Tryz.prog 87 #[.agg #[.bool nb, .slice A l.length c]] W fun e w' => e = .returned (.string (I z)) ∧ Below W.heap.size W w' := by
 have h1 := rwrite_any nb A l c W (by have := h.2.2.2.2.1; omega) h.2.2.2.1 h.1 h.2.2.2.2.2
 have e : (if nb = true then -(mval l : Int) else (mval l : Int)) = z := by rw [← h.2.2.1]; cases nb <;> rfl
 rw [e] at h1
 exact h1
theorem SD.calls {w : World} {B3 B4 : Nat} {nq nr : Bool} {Aq Ar : Option Addr} {lq lr : List Nat} {cq cr : Nat} {zq zr : Int} {K : Nat} {args : Array Value} {v : Value} (h : ∀ W, SD w B3 B4 nq nr Aq Ar lq lr cq cr zq zr K W → Calls Tryz.prog 87 args W fun e w' => e = .returned v ∧ Below W.heap.size W w') :
 ∀ W, SD w B3 B4 nq nr Aq Ar lq lr cq cr zq zr K W → Calls Tryz.prog 87 args W fun e wn => e = .returned v ∧ SD w B3 B4 nq nr Aq Ar lq lr cq cr zq zr K wn ∧ wn.cell? ⟨B3, 0, none⟩ = some (.bool nq) ∧ wn.cell? ⟨B3, 1, none⟩ = some (.slice Aq lq.length cq) ∧ wn.cell? ⟨B4, 0, none⟩ = some (.bool nr) ∧ wn.cell? ⟨B4, 1, none⟩ = some (.slice Ar lr.length cr) := by
 intro W hW
 refine (h W hW).mono ?_
 rintro e wn ⟨rfl, bn⟩
 have hn := hW.below bn
 exact ⟨rfl, hn, Lib.cell_of_heap hn.b3 0, Lib.cell_of_heap hn.b3 1, Lib.cell_of_heap hn.b4 0, Lib.cell_of_heap hn.b4 1⟩
structure XD (w : World) (P : Nat) (na : Bool) (v1 : Value) (A2 : Option Addr) (l2 : List Nat) (c2 : Nat) (aq ar : Addr) (q r : List Nat) (W : World) : Prop where
 k0 : W.heap[P]? = some (.cells #[.bool na, v1] 114 (0, 0))
 k1 : W.heap[P + 1]? = some (.cells #[.bool false, .slice A2 l2.length c2] 114 (0, 0))
 r2 : RdN W A2 l2
 rq : RdN W (some aq) q
 rr : RdN W (some ar) r
 bel : Below w.heap.size w W
theorem XD.below {w : World} {P : Nat} {na : Bool} {v1 : Value} {A2 : Option Addr} {l2 : List Nat} {c2 : Nat} {aq ar : Addr} {q r : List Nat} {W W' : World} (h : XD w P na v1 A2 l2 c2 aq ar q r W) (hb : Below W.heap.size W W') : XD w P na v1 A2 l2 c2 aq ar q r W' :=
 ⟨(hb.block P (Array.getElem?_eq_some_iff.1 h.k0).1).trans h.k0, (hb.block (P + 1) (Array.getElem?_eq_some_iff.1 h.k1).1).trans h.k1, h.r2.below hb, h.rq.below hb, h.rr.below hb, h.bel.trans (hb.mono h.bel.size)⟩
theorem XD.lt {w : World} {P : Nat} {na : Bool} {v1 : Value} {A2 : Option Addr} {l2 : List Nat} {c2 : Nat} {aq ar : Addr} {q r : List Nat} {W : World} (h : XD w P na v1 A2 l2 c2 aq ar q r W) : P + 1 < W.heap.size := (Array.getElem?_eq_some_iff.1 h.k1).1
theorem two_new27 (W : World) (o1 o2 : Obj) : ((W.alloc o1).alloc o2).drew.heap[W.heap.size]? = some o1 ∧ ((W.alloc o1).alloc o2).drew.heap[W.heap.size + 1]? = some o2 ∧ Below W.heap.size W ((W.alloc o1).alloc o2).drew := by
 obtain ⟨W0, rfl, hb, _, h1, h2⟩ := box2 W o1 o2
 exact ⟨h1, h2, hb.drew⟩
theorem RdN.apart {W : World} {A : Option Addr} {l : List Nat} (h : RdN W A l) {B : Nat} {x : Bool} {A' : Option Addr} {k c : Nat} (hB : W.heap[B]? = some (.cells #[.bool x, .slice A' k c] 114 (0, 0))) (u : Value) (o : Nat) : RdN (W.setCell ⟨B, o, none⟩ u) A l := by
 rcases Classical.em (l = []) with h0 | h0
 ·subst h0; exact RdN.nil _ _
 ·refine h.far (p := ⟨B, o, none⟩) (fun ad e => ?_) u
  obtain ⟨ad', e', _, hc⟩ := h h0
  rw [e] at e'
  injection e' with e'
  subst e'
  intro eb
  have hb : ad.block = B := eb
  have h1 := hc 0 (List.length_pos_iff.2 h0)
  have h2 : ad.add 0 = ad := rfl
  rw [h2] at h1
  unfold World.cell? at h1
  rw [hb, hB] at h1
  dsimp only at h1
  split at h1
  ·cases h1
  ·rcases ho : ad.off with _ | _ | n
   ·rw [ho] at h1; simp at h1
   ·rw [ho] at h1; simp at h1
   ·rw [ho] at h1; simp at h1
theorem RdN.apart2 {W : World} {A : Option Addr} {l : List Nat} (h : RdN W A l) {B : Nat} {x : Bool} {A' : Option Addr} {k c : Nat} (hB : W.heap[B]? = some (.cells #[.bool x, .slice A' k c] 114 (0, 0))) (u : Bool) (v : Value) : RdN ((W.setCell ⟨B, 0, none⟩ (.bool u)).setCell ⟨B, 1, none⟩ v) A l := by
 have h1 := h.apart hB (.bool u) 0
 have h2 : (W.setCell ⟨B, 0, none⟩ (.bool u)).heap[B]? = some (.cells #[.bool u, .slice A' k c] 114 (0, 0)) := by simp [World.setCell, Array.getElem?_modify, hB]
 exact h1.apart h2 v 1
theorem set2_far {W : World} {B k : Nat} (hk : k ≠ B) (x y : Value) : ((W.setCell ⟨B, 0, none⟩ x).setCell ⟨B, 1, none⟩ y).heap[k]? = W.heap[k]? := by
 rw [Below.heap_setCell _ _ _ _ (by simpa using hk), Below.heap_setCell _ _ _ _ (by simpa using hk)]
theorem set2_below {w W : World} {B : Nat} (hb : w.heap.size ≤ B) (h : Below w.heap.size w W) (x y : Value) : Below w.heap.size w ((W.setCell ⟨B, 0, none⟩ x).setCell ⟨B, 1, none⟩ y) :=
 (h.setCell (p := ⟨B, 0, none⟩) hb _).setCell (p := ⟨B, 1, none⟩) hb _
theorem div_neg_zero {A B : Nat} (hB : 0 < B) (h : A % B = 0) : (-(A : Int)) / (B : Int) = -((A / B : Nat) : Int) ∧ (-(A : Int)) % (B : Int) = 0 := by
 have e : (A : Int) = (B : Int) * ((A / B : Nat) : Int) := by have := Nat.div_add_mod A B; rw [h] at this; exact_mod_cast this.symm
 constructor
 ·rw [e, ← Int.mul_neg, Int.mul_ediv_cancel_left _ (by omega)]
 ·rw [e, ← Int.mul_neg, Int.mul_emod_right]
theorem div_neg_pos {A B : Nat} (hB : 0 < B) (h : 0 < A % B) : (-(A : Int)) / (B : Int) = -((A / B : Nat) : Int) + -1 ∧ (-(A : Int)) % (B : Int) = -((A % B : Nat) : Int) + (B : Int) := by
 have e : (A : Int) = (B : Int) * ((A / B : Nat) : Int) + ((A % B : Nat) : Int) := by exact_mod_cast (Nat.div_add_mod A B).symm
 have hlt : A % B < B := Nat.mod_lt _ hB
 have e2 : -(A : Int) = (-((A / B : Nat) : Int) + -1) * (B : Int) + (-((A % B : Nat) : Int) + (B : Int)) := by rw [Int.add_mul, Int.neg_mul, Int.mul_comm _ (B : Int)]; omega
 constructor
 ·rw [e2, Int.add_comm, Int.add_mul_ediv_right _ _ (by omega), Int.ediv_eq_zero_of_lt (by omega) (by omega)]; omega
 ·rw [e2, Int.add_comm, Int.add_mul_emod_self_right, Int.emod_eq_of_lt (by omega) (by omega)]
set_option maxHeartbeats 16000000 in
set_option maxRecDepth 100000 in
theorem rDiv_long (a b : ByteArray) (ha : a.size ≤ 80000) (hb : b.size ≤ 80000) (hp : 0 < vl b) (hlong : ¬ ((digits (vl a).natAbs).length ≤ 17 ∧ (digits (vl b).natAbs).length ≤ 17)) (w : World) :
 Calls Tryz.prog 216 #[.string a, .string b] w fun e w' => e = .returned (.tuple #[.string (I (vl a / vl b)), .string (I (vl a % vl b)), .int .i64 0]) ∧ Below w.heap.size w w' := by
 obtain ⟨m, is, n, also, HA, HB, HIS, HNZ⟩ : ∃ (m : Int) (is : Bool) (n : Int) (also : Bool), Hid (∀ W, Calls Tryz.prog 85 #[.string a] W fun e w' => e = .returned (.tuple #[.int .i64 m, .bool is]) ∧ W = w') ∧ Hid (∀ W, Calls Tryz.prog 85 #[.string b] W fun e w' => e = .returned (.tuple #[.int .i64 n, .bool also]) ∧ W = w') ∧ Hid (is = true → also = false) ∧ Hid (also = true → (n == 0) = false) := by
  by_cases h1 : (digits (vl a).natAbs).length ≤ 17
  ·have h2 : 17 < (digits (vl b).natAbs).length := by omega
   exact ⟨_, _, _, _, rshort_yes a (by omega) h1, rshort_no b (by omega) h2, fun _ => rfl, fun h => by cases h⟩
  ·by_cases h2 : (digits (vl b).natAbs).length ≤ 17
   ·exact ⟨_, _, _, _, rshort_no a (by omega) (by omega), rshort_yes b (by omega) h2, (fun h => by cases h), fun _ => by rw [beq_eq_false_iff_ne]; omega⟩
   ·exact ⟨_, _, _, _, rshort_no a (by omega) (by omega), rshort_no b (by omega) (by omega), (fun h => by cases h), fun h => by cases h⟩
 have HR1 := Lib.hid (fun W => rread_any a W (by omega))
 have HR2 := Lib.hid (fun W => rread_any b W (by omega))
 have HS := Lib.hid (And.intro ha hb)
 have HP := Lib.hid hp
 clear ha hb hp hlong
 go_enter Tryz.func216, Tryz.ntmps216
 go_wp2_with fail
 refine (HA.out _).mono ?_
 rintro e w1 ⟨rfl, rfl⟩
 go_wp2_with fail
 refine (HB.out _).mono ?_
 rintro e w1 ⟨rfl, rfl⟩
 go_upto_region 3 with fail
 go_cut [33] (fun v wx => v = .bool false ∧ w = wx)
 case first =>
  cases also
  ·go_wp2_with fail
   go_meet
   exact ⟨rfl, rfl⟩
  ·have hz := HNZ.out rfl
   go_wp2_with fail
   go_meet
   exact ⟨rfl, rfl⟩
 case rest =>
  obtain ⟨rfl, rfl⟩ := hcut
  go_upto_region 5 with fail
  go_cut [37] (fun v wx => v = .bool false ∧ w = wx)
  case first =>
   cases is
   ·go_wp2_with fail
    go_meet
    exact ⟨rfl, rfl⟩
   ·have ha := HIS.out rfl
    subst ha
    go_wp2_with fail
    go_meet
    exact ⟨rfl, rfl⟩
  case rest =>
   obtain ⟨rfl, rfl⟩ := hcut
   clear HA HB HIS HNZ
   go_wp2_with fail
   refine (HR1.out _).mono ?_
   rintro e w1 ⟨A1, l1, c1, rfl, h1, hc1, hr1, hb1⟩
   have H1 := Lib.hid h1
   have R1 := Lib.hid hr1
   have B1 := Lib.hid hb1
   clear HR1 h1 hr1 hb1
   go_wp2_with fail
   refine (HR2.out _).mono ?_
   rintro e w2 ⟨A2, l2, c2, rfl, h2, hc2, hr2, hb2⟩
   rw [decide_eq_false (show ¬ vl b < 0 by have := HP.out; omega)]
   obtain ⟨W2, hW2, hBW, hz, k0, k1⟩ := box2 w2 (.cells #[.bool (decide (vl a < 0)), .slice A1 l1.length c1] 114) (.cells #[.bool false, .slice A2 l2.length c2] 114)
   have H2 := Lib.hid h2
   have R1' := Lib.hid ((R1.out.below hb2).below hBW)
   have R2' := Lib.hid (hr2.below hBW)
   have B2 := Lib.hid ((B1.out.trans (hb2.mono B1.out.size)).trans (hBW.mono (B1.out.trans (hb2.mono B1.out.size)).size))
   have HZ := Lib.hid hz
   have HPW := Lib.hid (B1.out.trans (hb2.mono B1.out.size)).size
   have K0 := Lib.hid k0
   have K1 := Lib.hid k1
   clear HR2 h2 hr2 hb2 hBW hz k0 k1 R1 B1
   go_upto_region 12 with fail
   rw [← hW2]
   clear hW2
   obtain ⟨na, hna⟩ : ∃ na, decide (vl a < 0) = na := ⟨_, rfl⟩
   rw [hna] at K0 ⊢
   have HNA := Lib.hid hna
   have a0 := Lib.cell_of_heap K0.out 0
   have a1 := Lib.cell_of_heap K0.out 1
   have e0 := Lib.cell_of_heap K1.out 0
   have e1 := Lib.cell_of_heap K1.out 1
   simp at a0 a1 e0 e1
   have hlb : 0 < mval l2 := by rw [H2.out.2.2.1]; have := HP.out; omega
   have HDV := Lib.hid (rdivide_any A1 A2 l1 l2 c1 c2 W2 (by have := H1.out.2.2.2; have := HS.out; omega) (by have := H2.out.2.2.2; have := HS.out; omega) hc1 hc2 H1.out.1 H2.out.1 H2.out.2.1 hlb R1'.out R2'.out)
   generalize w2.heap.size = P at *
   clear hna hlb
   go_wp2_with fail
   refine HDV.out.mono ?_
   rintro e w3 ⟨aq, ar, q, r, cq, cr, rfl, hq, hr, rq, rr, b3⟩
   have HX : Hid (XD w P na (.slice A1 l1.length c1) A2 l2 c2 aq ar q r w3) := ⟨(b3.block P (Array.getElem?_eq_some_iff.1 K0.out).1).trans K0.out, (b3.block (P + 1) (Array.getElem?_eq_some_iff.1 K1.out).1).trans K1.out, R2'.out.below b3, rq, rr, B2.out.trans (b3.mono B2.out.size)⟩
   have HQ := Lib.hid hq
   have HR := Lib.hid hr
   clear hq hr rq rr b3 K0 K1 R1' R2' B2 HDV HZ a0 a1 e0 e1
   go_upto_region 13 with fail
   go_cut [17, 18] (fun v17 v18 wx => ∃ B3 B4 : Nat, v17 = .pointer (some ⟨B3, 0, none⟩) ∧ v18 = .pointer (some ⟨B4, 0, none⟩) ∧ B3 ≠ B4 ∧ P + 1 < B3 ∧ P + 1 < B4 ∧ wx.heap[B3]? = some (.cells #[.bool na, .slice (some aq) q.length cq] 114 (0, 0)) ∧ wx.heap[B4]? = some (.cells #[.bool na, .slice (some ar) r.length cr] 114 (0, 0)) ∧ XD w P na (.slice A1 l1.length c1) A2 l2 c2 aq ar q r wx)
   case first =>
    have a0 := Lib.cell_of_heap HX.out.k0 0
    have e0 := Lib.cell_of_heap HX.out.k1 0
    simp at a0 e0
    have n1 : w3.heap.size ≠ P := by have := HX.out.lt; omega
    have n2 : w3.heap.size ≠ P + 1 := by have := HX.out.lt; omega
    have n3 : P < w3.heap.size := by have := HX.out.lt; omega
    have n4 : P + 1 < w3.heap.size := HX.out.lt
    have y1 : (w3.alloc (.cells #[.bool false, .slice none 0 0] 114)).cell? ⟨P, 0, none⟩ = some (.bool na) := (Below.cell ((Below.refl w3.heap.size w3).alloc (Nat.le_refl _) _) n3).trans a0
    have y2 : ((w3.alloc (.cells #[.bool false, .slice none 0 0] 114)).alloc (.cells #[.bool false, .slice none 0 0] 114)).cell? ⟨P, 0, none⟩ = some (.bool na) := (Below.cell (((Below.refl w3.heap.size w3).alloc (Nat.le_refl _) _).alloc (by simp) _) n3).trans a0
    have y3 : (w3.alloc (.cells #[.bool false, .slice none 0 0] 114)).cell? ⟨P + 1, 0, none⟩ = some (.bool false) := (Below.cell ((Below.refl w3.heap.size w3).alloc (Nat.le_refl _) _) n4).trans e0
    have y4 : ((w3.alloc (.cells #[.bool false, .slice none 0 0] 114)).alloc (.cells #[.bool false, .slice none 0 0] 114)).cell? ⟨P + 1, 0, none⟩ = some (.bool false) := (Below.cell (((Below.refl w3.heap.size w3).alloc (Nat.le_refl _) _).alloc (by simp) _) n4).trans e0
    cases na
    ·
     go_region
     all_goals (first | go_wp2_with fail | skip)
     all_goals go_meet
     all_goals first
      | (have t := two_new27 w3 (.cells #[.bool false, .slice (some aq) q.length cq] 114) (.cells #[.bool false, .slice (some ar) r.length cr] 114); exact ⟨w3.heap.size, w3.heap.size + 1, rfl, rfl, (by omega), (by omega), (by omega), t.1, t.2.1, HX.out.below t.2.2⟩)
      | (have t := two_new27 w3 (.cells #[.bool false, .slice (some ar) r.length cr] 114) (.cells #[.bool false, .slice (some aq) q.length cq] 114); exact ⟨w3.heap.size + 1, w3.heap.size, rfl, rfl, (by omega), (by omega), (by omega), t.2.1, t.1, HX.out.below t.2.2⟩)
    ·
     go_region
     all_goals (first | go_wp2_with fail | skip)
     all_goals go_meet
     all_goals first
      | (have t := two_new27 w3 (.cells #[.bool true, .slice (some aq) q.length cq] 114) (.cells #[.bool true, .slice (some ar) r.length cr] 114); exact ⟨w3.heap.size, w3.heap.size + 1, rfl, rfl, (by omega), (by omega), (by omega), t.1, t.2.1, HX.out.below t.2.2⟩)
      | (have t := two_new27 w3 (.cells #[.bool true, .slice (some ar) r.length cr] 114) (.cells #[.bool true, .slice (some aq) q.length cq] 114); exact ⟨w3.heap.size + 1, w3.heap.size, rfl, rfl, (by omega), (by omega), (by omega), t.2.1, t.1, HX.out.below t.2.2⟩)
   case rest =>
    obtain ⟨B3, B4, rfl, rfl, n34, n3, n4, k3, k4, hx⟩ := hcut
    have K3 := Lib.hid k3
    have K4 := Lib.hid k4
    have HN34 := Lib.hid n34
    have HN3 := Lib.hid (And.intro n3 n4)
    have a0 := Lib.cell_of_heap hx.k0 0
    have e0 := Lib.cell_of_heap hx.k1 0
    have e1 := Lib.cell_of_heap hx.k1 1
    simp at a0 e0 e1
    have HXD := Lib.hid hx
    have HV : Hid (mval l1 = (vl a).natAbs ∧ (mval l2 : Int) = vl b ∧ 0 < mval l2) := ⟨H1.out.2.2.1, by rw [H2.out.2.2.1]; have := HP.out; omega, by rw [H2.out.2.2.1]; have := HP.out; omega⟩
    have HLN : Hid (q.length ≤ 9000 ∧ r.length ≤ 9000 ∧ l2.length ≤ 9000) := ⟨by have := HQ.out.2.2.2.1; have := H1.out.2.2.2; have := HS.out; omega, by have := HR.out.2.2.2.1; have := H2.out.2.2.2; have := HS.out; omega, by have := H2.out.2.2.2; have := HS.out; omega⟩
    clear k3 k4 n34 n3 n4 hx HX
    cases na
    ·have hva : vl a = (mval l1 : Int) := by have := HNA.out; rw [decide_eq_false_iff_not] at this; rw [HV.out.1]; omega
     have HSD : Hid (SD w B3 B4 false false (some aq) (some ar) q r cq cr (vl a / vl b) (vl a % vl b) 9001 _) := ⟨K3.out, K4.out, ⟨HQ.out.1, HQ.out.2.1, (by rw [hva, ← HV.out.2.1]; show (mval q : Int) = _; rw [HQ.out.2.2.1]; exact Int.natCast_ediv _ _), HQ.out.2.2.2.2, (by have := HLN.out; omega), HXD.out.rq⟩, ⟨HR.out.1, HR.out.2.1, (by rw [hva, ← HV.out.2.1]; show (mval r : Int) = _; rw [HR.out.2.2.1]; exact Int.natCast_emod _ _), HR.out.2.2.2.2, (by have := HLN.out; omega), HXD.out.rr⟩, HXD.out.bel⟩
     clear hva K3 K4 HXD
     rcases Nat.eq_zero_or_pos r.length with h0 | h0
     ·have t1 : decide ((0 : Int) < (r.length : Int)) = false := decide_eq_false (by omega)
      have t2 : decide (0 < r.length) = false := decide_eq_false (by omega)
      clear h0
      go_upto_region 17 with fail
      clear a0 e0 e1 t1 t2
      have g0 := Lib.cell_of_heap HSD.out.b3 0
      have g1 := Lib.cell_of_heap HSD.out.b3 1
      have g2 := Lib.cell_of_heap HSD.out.b4 0
      have g3 := Lib.cell_of_heap HSD.out.b4 1
      simp at g0 g1 g2 g3
      have HW1 := Lib.hid (SD.calls (fun W hW => rwrite_nm (W := W) hW.mq (by omega)) : ∀ W, SD w B3 B4 false false (some aq) (some ar) q r cq cr (vl a / vl b) (vl a % vl b) 9001 W → _)
      have HW2 := Lib.hid (SD.calls (fun W hW => rwrite_nm (W := W) hW.mr (by omega)) : ∀ W, SD w B3 B4 false false (some aq) (some ar) q r cq cr (vl a / vl b) (vl a % vl b) 9001 W → _)
      have hg := HSD.out.below (Below.refl _ _).drew
      clear HSD
      go_wp2_with fail
      go_region_held3 (fun W => W.cell? ⟨B3, 0, none⟩ = some (.bool false) ∧ W.cell? ⟨B3, 1, none⟩ = some (.slice (some aq) q.length cq) ∧ W.cell? ⟨B4, 0, none⟩ = some (.bool false) ∧ W.cell? ⟨B4, 1, none⟩ = some (.slice (some ar) r.length cr))
       (((try dsimp only); refine ⟨?_, ?_, ?_, ?_⟩ <;> first | assumption | (go_simp; done)))
       (first
         | (go_at_call_of 87 [Value.agg #[Value.bool false, Value.slice (some aq) q.length cq]]; refine (HW1.out _ hg).mono ?_; clear hg g0 g1 g2 g3; rintro e wn ⟨rfl, hg, g0, g1, g2, g3⟩)
         | (go_at_call_of 87 [Value.agg #[Value.bool false, Value.slice (some ar) r.length cr]]; refine (HW2.out _ hg).mono ?_; clear hg g0 g1 g2 g3; rintro e wn ⟨rfl, hg, g0, g1, g2, g3⟩))
      all_goals (first | go_wp2_with fail | skip)
      all_goals go_ret3
      all_goals exact ⟨rfl, hg.bel⟩
     ·have t1 : decide ((0 : Int) < (r.length : Int)) = true := decide_eq_true (by omega)
      have t2 : decide (0 < r.length) = true := decide_eq_true (by omega)
      clear h0
      go_upto_region 17 with fail
      clear a0 e0 e1 t1 t2
      have g0 := Lib.cell_of_heap HSD.out.b3 0
      have g1 := Lib.cell_of_heap HSD.out.b3 1
      have g2 := Lib.cell_of_heap HSD.out.b4 0
      have g3 := Lib.cell_of_heap HSD.out.b4 1
      simp at g0 g1 g2 g3
      have HW1 := Lib.hid (SD.calls (fun W hW => rwrite_nm (W := W) hW.mq (by omega)) : ∀ W, SD w B3 B4 false false (some aq) (some ar) q r cq cr (vl a / vl b) (vl a % vl b) 9001 W → _)
      have HW2 := Lib.hid (SD.calls (fun W hW => rwrite_nm (W := W) hW.mr (by omega)) : ∀ W, SD w B3 B4 false false (some aq) (some ar) q r cq cr (vl a / vl b) (vl a % vl b) 9001 W → _)
      have hg := HSD.out.below (Below.refl _ _).drew
      clear HSD
      go_wp2_with fail
      go_region_held3 (fun W => W.cell? ⟨B3, 0, none⟩ = some (.bool false) ∧ W.cell? ⟨B3, 1, none⟩ = some (.slice (some aq) q.length cq) ∧ W.cell? ⟨B4, 0, none⟩ = some (.bool false) ∧ W.cell? ⟨B4, 1, none⟩ = some (.slice (some ar) r.length cr))
       (((try dsimp only); refine ⟨?_, ?_, ?_, ?_⟩ <;> first | assumption | (go_simp; done)))
       (first
         | (go_at_call_of 87 [Value.agg #[Value.bool false, Value.slice (some aq) q.length cq]]; refine (HW1.out _ hg).mono ?_; clear hg g0 g1 g2 g3; rintro e wn ⟨rfl, hg, g0, g1, g2, g3⟩)
         | (go_at_call_of 87 [Value.agg #[Value.bool false, Value.slice (some ar) r.length cr]]; refine (HW2.out _ hg).mono ?_; clear hg g0 g1 g2 g3; rintro e wn ⟨rfl, hg, g0, g1, g2, g3⟩))
      all_goals (first | go_wp2_with fail | skip)
      all_goals go_ret3
      all_goals exact ⟨rfl, hg.bel⟩
    ·have hva : vl a = -(mval l1 : Int) := by have := HNA.out; rw [decide_eq_true_eq] at this; rw [HV.out.1]; omega
     rcases Nat.eq_zero_or_pos r.length with h0 | h0
     ·have t1 : decide ((0 : Int) < (r.length : Int)) = false := decide_eq_false (by omega)
      have t2 : decide (0 < r.length) = false := decide_eq_false (by omega)
      have hr0 : r = [] := List.eq_nil_of_length_eq_zero h0
      have hm0 : mval l1 % mval l2 = 0 := by rw [← HR.out.2.2.1, hr0]; rfl
      have hdz := div_neg_zero HV.out.2.2 hm0
      have HSD : Hid (SD w B3 B4 true true (some aq) (some ar) q r cq cr (vl a / vl b) (vl a % vl b) 9001 _) := ⟨K3.out, K4.out, ⟨HQ.out.1, HQ.out.2.1, (by rw [hva, ← HV.out.2.1, hdz.1]; show -(mval q : Int) = _; rw [HQ.out.2.2.1]), HQ.out.2.2.2.2, (by have := HLN.out; omega), HXD.out.rq⟩, ⟨HR.out.1, HR.out.2.1, (by rw [hva, ← HV.out.2.1, hdz.2]; show -(mval r : Int) = _; rw [HR.out.2.2.1, hm0]; rfl), HR.out.2.2.2.2, (by have := HLN.out; omega), HXD.out.rr⟩, HXD.out.bel⟩
      clear hva K3 K4 HXD hdz hm0 hr0 h0
      go_upto_region 17 with fail
      clear a0 e0 e1 t1 t2
      have g0 := Lib.cell_of_heap HSD.out.b3 0
      have g1 := Lib.cell_of_heap HSD.out.b3 1
      have g2 := Lib.cell_of_heap HSD.out.b4 0
      have g3 := Lib.cell_of_heap HSD.out.b4 1
      simp at g0 g1 g2 g3
      have HW1 := Lib.hid (SD.calls (fun W hW => rwrite_nm (W := W) hW.mq (by omega)) : ∀ W, SD w B3 B4 true true (some aq) (some ar) q r cq cr (vl a / vl b) (vl a % vl b) 9001 W → _)
      have HW2 := Lib.hid (SD.calls (fun W hW => rwrite_nm (W := W) hW.mr (by omega)) : ∀ W, SD w B3 B4 true true (some aq) (some ar) q r cq cr (vl a / vl b) (vl a % vl b) 9001 W → _)
      have hg := HSD.out.below (Below.refl _ _).drew
      clear HSD
      go_wp2_with fail
      go_region_held3 (fun W => W.cell? ⟨B3, 0, none⟩ = some (.bool true) ∧ W.cell? ⟨B3, 1, none⟩ = some (.slice (some aq) q.length cq) ∧ W.cell? ⟨B4, 0, none⟩ = some (.bool true) ∧ W.cell? ⟨B4, 1, none⟩ = some (.slice (some ar) r.length cr))
       (((try dsimp only); refine ⟨?_, ?_, ?_, ?_⟩ <;> first | assumption | (go_simp; done)))
       (first
         | (go_at_call_of 87 [Value.agg #[Value.bool true, Value.slice (some aq) q.length cq]]; refine (HW1.out _ hg).mono ?_; clear hg g0 g1 g2 g3; rintro e wn ⟨rfl, hg, g0, g1, g2, g3⟩)
         | (go_at_call_of 87 [Value.agg #[Value.bool true, Value.slice (some ar) r.length cr]]; refine (HW2.out _ hg).mono ?_; clear hg g0 g1 g2 g3; rintro e wn ⟨rfl, hg, g0, g1, g2, g3⟩))
      all_goals (first | go_wp2_with fail | skip)
      all_goals go_ret3
      all_goals exact ⟨rfl, hg.bel⟩
     ·have t1 : decide ((0 : Int) < (r.length : Int)) = true := decide_eq_true (by omega)
      have t2 : decide (0 < r.length) = true := decide_eq_true (by omega)
      have hm0 : 0 < mval l1 % mval l2 := by
       rw [← HR.out.2.2.1]
       rcases Nat.eq_zero_or_pos (mval r) with h | h
       ·have := (mval_eq_zero HR.out.2.1).1 h; rw [this] at h0; cases h0
       ·exact h
      have hdz := div_neg_pos HV.out.2.2 hm0
      have HZQ : Hid (vl a / vl b = -(mval q : Int) + -1) := by rw [Hid, hva, ← HV.out.2.1, hdz.1, HQ.out.2.2.1]
      have HZR : Hid (vl a % vl b = -(mval r : Int) + vl b) := by rw [Hid, hva, ← HV.out.2.1, hdz.2, HR.out.2.2.1]
      clear hva hdz hm0 h0
      have g0 := Lib.cell_of_heap K3.out 0
      have g1 := Lib.cell_of_heap K3.out 1
      simp at g0 g1
      have hal : Below wc.heap.size wc (wc.alloc (.cells #[.int .i64 1] 3)) := (Below.refl _ wc).alloc (Nat.le_refl _) _
      have HA1 := Lib.hid (radd_any true true (some aq) (some ⟨wc.heap.size, 0, none⟩) q [1] cq 1 (-(mval q : Int)) (-1) 9000 (wc.alloc (.cells #[.int .i64 1] 3)) (by omega) ⟨HQ.out.1, HQ.out.2.1, rfl, HQ.out.2.2.2.2, HLN.out.1, HXD.out.rq.below hal⟩ ⟨Dig.nil.cons (by omega), norm_snoc (l := []) (by omega), by rw [mval_single]; rfl, by simp, by simp, RdN.single wc 1⟩)
      clear hal
      go_wp2_with fail
      refine HA1.out.mono ?_
      rintro e w5 ⟨n5, A5, l5, c5, rfl, h5, b5⟩
      have b5' : Below wc.heap.size wc w5 := ((Below.refl _ wc).alloc (Nat.le_refl _) (.cells #[.int .i64 1] 3)).trans (b5.mono (by simp))
      have k3 := (b5'.block B3 (Array.getElem?_eq_some_iff.1 K3.out).1).trans K3.out
      have k4 := (b5'.block B4 (Array.getElem?_eq_some_iff.1 K4.out).1).trans K4.out
      have hx5 := HXD.out.below b5'
      have m0 := Lib.cell_of_heap k3 0
      have m1 := Lib.cell_of_heap k3 1
      have f0 := Lib.frozen_of_heap k3 0
      have f1 := Lib.frozen_of_heap k3 1
      simp at m0 m1
      have H5 := Lib.hid h5
      have K3' := Lib.hid k3
      have K4' := Lib.hid k4
      have HX5 := Lib.hid hx5
      clear b5 b5' k3 k4 hx5 h5 K3 K4 HXD HA1 a0 e0 e1 g0 g1 t1 t2
      go_upto_region 16 with fail
      have K3'' := Lib.hid (set2 K3'.out (.bool n5) (.slice A5 l5.length c5))
      have K4'' : Hid (((w5.setCell ⟨B3, 0, none⟩ (.bool n5)).setCell ⟨B3, 1, none⟩ (.slice A5 l5.length c5)).heap[B4]? = some (.cells #[.bool true, .slice (some ar) r.length cr] 114 (0, 0))) := (set2_far (fun e => HN34.out e.symm) _ _).trans K4'.out
      have KY : Hid (((w5.setCell ⟨B3, 0, none⟩ (.bool n5)).setCell ⟨B3, 1, none⟩ (.slice A5 l5.length c5)).heap[P + 1]? = some (.cells #[.bool false, .slice A2 l2.length c2] 114 (0, 0))) := (set2_far (by have := HN3.out; omega) _ _).trans HX5.out.k1
      have RY := Lib.hid (HX5.out.r2.apart2 K3'.out n5 (.slice A5 l5.length c5))
      have RR := Lib.hid (HX5.out.rr.apart2 K3'.out n5 (.slice A5 l5.length c5))
      have R5 := Lib.hid (H5.out.2.2.2.2.2.apart2 K3'.out n5 (.slice A5 l5.length c5))
      have BB := Lib.hid (set2_below (B := B3) (by have := HN3.out; have := HPW.out; omega) HX5.out.bel (.bool n5) (.slice A5 l5.length c5))
      generalize (w5.setCell ⟨B3, 0, none⟩ (.bool n5)).setCell ⟨B3, 1, none⟩ (.slice A5 l5.length c5) = w6 at K3'' K4'' KY RY RR R5 BB ⊢
      have M5 : Hid (RNm w6 n5 A5 l5 c5 (vl a / vl b) 9001) := ⟨H5.out.1, H5.out.2.1, by rw [H5.out.2.2.1, HZQ.out], H5.out.2.2.2.1, H5.out.2.2.2.2.1, R5.out⟩
      have HA2 := Lib.hid (radd_any true false (some ar) A2 r l2 cr c2 (-(mval r : Int)) (vl b) 9000 w6 (by omega) ⟨HR.out.1, HR.out.2.1, rfl, HR.out.2.2.2.2, HLN.out.2.1, RR.out⟩ ⟨H2.out.1, H2.out.2.1, HV.out.2.1, hc2, HLN.out.2.2, RY.out⟩)
      have g0 := Lib.cell_of_heap K4''.out 0
      have g1 := Lib.cell_of_heap K4''.out 1
      have e0 := Lib.cell_of_heap KY.out 0
      have e1 := Lib.cell_of_heap KY.out 1
      simp at g0 g1 e0 e1
      clear H5 K3' K4' HX5 m0 m1 f0 f1 RY RR R5 KY
      go_wp2_with fail
      refine HA2.out.mono ?_
      rintro e w7 ⟨n7, A7, l7, c7, rfl, h7, b7⟩
      have k3 := (b7.block B3 (Array.getElem?_eq_some_iff.1 K3''.out).1).trans K3''.out
      have k4 := (b7.block B4 (Array.getElem?_eq_some_iff.1 K4''.out).1).trans K4''.out
      have m0 := Lib.cell_of_heap k4 0
      have m1 := Lib.cell_of_heap k4 1
      have f0 := Lib.frozen_of_heap k4 0
      have f1 := Lib.frozen_of_heap k4 1
      simp at m0 m1
      have m5 := M5.out.below b7
      have hs7 : SD w B3 B4 n5 n7 A5 A7 l5 l7 c5 c7 (vl a / vl b) (vl a % vl b) 9001 ((w7.setCell ⟨B4, 0, none⟩ (.bool n7)).setCell ⟨B4, 1, none⟩ (.slice A7 l7.length c7)) :=
       ⟨(set2_far HN34.out _ _).trans k3, set2 k4 _ _, ⟨m5.1, m5.2.1, m5.2.2.1, m5.2.2.2.1, m5.2.2.2.2.1, m5.2.2.2.2.2.apart2 k4 n7 _⟩, ⟨h7.1, h7.2.1, by rw [h7.2.2.1, HZR.out], h7.2.2.2.1, h7.2.2.2.2.1, h7.2.2.2.2.2.apart2 k4 n7 _⟩, set2_below (B := B4) (by have := HN3.out; have := HPW.out; omega) (BB.out.trans (b7.mono BB.out.size)) _ _⟩
      have HSD := Lib.hid hs7
      clear hs7 h7 b7 k3 k4 m5 M5 HA2 K3'' K4'' BB g0 g1 e0 e1
      go_upto_region 17 with fail
      generalize (w7.setCell ⟨B4, 0, none⟩ (.bool n7)).setCell ⟨B4, 1, none⟩ (.slice A7 l7.length c7) = w8 at HSD ⊢
      clear m0 m1 f0 f1
      have g0 := Lib.cell_of_heap HSD.out.b3 0
      have g1 := Lib.cell_of_heap HSD.out.b3 1
      have g2 := Lib.cell_of_heap HSD.out.b4 0
      have g3 := Lib.cell_of_heap HSD.out.b4 1
      simp at g0 g1 g2 g3
      have HW1 := Lib.hid (SD.calls (fun W hW => rwrite_nm (W := W) hW.mq (by omega)) : ∀ W, SD w B3 B4 n5 n7 A5 A7 l5 l7 c5 c7 (vl a / vl b) (vl a % vl b) 9001 W → _)
      have HW2 := Lib.hid (SD.calls (fun W hW => rwrite_nm (W := W) hW.mr (by omega)) : ∀ W, SD w B3 B4 n5 n7 A5 A7 l5 l7 c5 c7 (vl a / vl b) (vl a % vl b) 9001 W → _)
      have hg := HSD.out.below (Below.refl _ _).drew
      clear HSD
      go_wp2_with fail
      go_region_held3 (fun W => W.cell? ⟨B3, 0, none⟩ = some (.bool n5) ∧ W.cell? ⟨B3, 1, none⟩ = some (.slice A5 l5.length c5) ∧ W.cell? ⟨B4, 0, none⟩ = some (.bool n7) ∧ W.cell? ⟨B4, 1, none⟩ = some (.slice A7 l7.length c7))
       (((try dsimp only); refine ⟨?_, ?_, ?_, ?_⟩ <;> first | assumption | (go_simp; done)))
       (first
         | (go_at_call_of 87 [Value.agg #[Value.bool n5, Value.slice A5 l5.length c5]]; refine (HW1.out _ hg).mono ?_; clear hg g0 g1 g2 g3; rintro e wn ⟨rfl, hg, g0, g1, g2, g3⟩)
         | (go_at_call_of 87 [Value.agg #[Value.bool n7, Value.slice A7 l7.length c7]]; refine (HW2.out _ hg).mono ?_; clear hg g0 g1 g2 g3; rintro e wn ⟨rfl, hg, g0, g1, g2, g3⟩))
      all_goals (first | go_wp2_with fail | skip)
      all_goals go_ret3
      all_goals exact ⟨rfl, hg.bel⟩
theorem rDiv_any (a b : ByteArray) (ha : a.size ≤ 80000) (hb : b.size ≤ 80000) (hp : 0 < vl b) (w : World) :
 Calls Tryz.prog 216 #[.string a, .string b] w fun e w' => e = .returned (.tuple #[.string (I (vl a / vl b)), .string (I (vl a % vl b)), .int .i64 0]) ∧ Below w.heap.size w w' := by
 by_cases h : (digits (vl a).natAbs).length ≤ 17 ∧ (digits (vl b).natAbs).length ≤ 17
 ·exact rDiv_short a b (by omega) (by omega) (digits_short h.1) (digits_short h.2) hp w
 ·exact rDiv_long a b ha hb hp h w
end Go.Proofs.YthmfkgcoocikjaaGreatDoor
