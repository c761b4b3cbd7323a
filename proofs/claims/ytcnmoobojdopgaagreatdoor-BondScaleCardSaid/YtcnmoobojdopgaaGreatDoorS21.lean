/-
  The walk of trancheref10.Check, where i.kind = 2. (Printed by gen_ref17.py.)
-/
import Derived.Test.YtcnmoobojdopgaaGreatDoorS20
set_option linter.unusedVariables false
set_option linter.unusedSimpArgs false
set_option maxHeartbeats 16000000
set_option maxRecDepth 100000
namespace Go.Proofs.YtcnmoobojdopgaaGreatDoor
open Go.RowKit Tr Go.Shelf
theorem rCheck10_a (i : Inst) (hs : i.tiny) (hkind : i.kind = 2) (w : World) :
 Calls Tryz.prog 38 #[i.enc] w (ChkPost w i.ok) := by
 have HKIND := Lib.hid hkind
 clear hkind
 obtain ⟨z1, z2, z3, z4, z5, z6, z7, z8, z9⟩ := hs
 have HS := Lib.hid (And.intro z4 (And.intro z5 (And.intro z6 (And.intro z7 (And.intro z8 z9)))))
 have HN1 := Lib.hid (fun W => rName_any i.id (by omega) W)
 have HC1 := Lib.hid (fun W => rCode_any i.cur (by omega) W)
 have HC2 := Lib.hid (fun W => rCode_any i.other (by omega) W)
 clear z1 z2 z3 z4 z5 z6 z7 z8 z9
 obtain ⟨W0, hW0, hB0, hz, hk⟩ := ibox i w
 obtain ⟨c0, c1, c2, c3, c4, c5, c6, c7, c8, c9, c10, c11, c12, c13, c14⟩ := cells15 hk
 have HB := Lib.hid hB0
 have HK := Lib.hid hk
 clear hB0 hz hk
 go_enter Tryz.func38, Tryz.ntmps38
 go_wp2_with fail
 refine (HN1.out _).mono ?_
 rintro e w1 ⟨rfl, rfl⟩
 clear HN1
 cases h1 : nameOk i.id
 ·have HH := Lib.hid h1
  clear h1
  go_wp2_with fail
  go_ret
  exact ChkPost.bad (by decide) (fun h => by have := h.id; rw [HH.out] at this; cases this) HB.out
 have H1 := Lib.hid h1
 clear h1
 by_cases h2 : i.kind < 1
 ·go_wp2_with fail
  go_ret
  exact ChkPost.bad (by decide) (fun h => by have := h.kind; omega) HB.out
 by_cases h3 : 5 < i.kind
 ·go_wp2_with fail
  go_ret
  exact ChkPost.bad (by decide) (fun h => by have := h.kind; omega) HB.out
 have t2 : decide (i.kind < 1) = false := decide_eq_false h2
 have t3 : decide (5 < i.kind) = false := decide_eq_false h3
 have H2 := Lib.hid (show 1 ≤ i.kind ∧ i.kind ≤ 5 by omega)
 go_wp2_with fail
 refine (HC1.out _).mono ?_
 rintro e w1 ⟨rfl, rfl⟩
 clear HC1 t2 t3 h2 h3
 cases h4 : codeOk i.cur
 ·have HH := Lib.hid h4
  clear h4
  go_wp2_with fail
  go_ret
  exact ChkPost.bad (by decide) (fun h => by have := h.cur; rw [HH.out] at this; cases this) HB.out
 have H4 := Lib.hid h4
 clear h4
 by_cases h5 : i.places < 0
 ·go_wp2_with fail
  go_ret
  exact ChkPost.bad (by decide) (fun h => by have := h.places; omega) HB.out
 by_cases h6 : 12 < i.places
 ·go_wp2_with fail
  go_ret
  exact ChkPost.bad (by decide) (fun h => by have := h.places; omega) HB.out
 have t5 : decide (i.places < 0) = false := decide_eq_false h5
 have t6 : decide (12 < i.places) = false := decide_eq_false h6
 have H5 := Lib.hid (show 0 ≤ i.places ∧ i.places ≤ 12 by omega)
 go_wp2_with fail
 clear t5 t6 h5 h6
 by_cases h7 : okDay i.issued
 case neg =>
  refine (rday_no i.issued h7 _).mono ?_
  rintro e w1 ⟨rfl, rfl⟩
  have HH := Lib.hid h7
  clear h7
  go_wp2_with fail
  go_ret
  exact ChkPost.bad (by decide) (fun h => HH.out h.issued) HB.out
 refine (rday_yes i.issued h7 _).mono ?_
 rintro e w1 ⟨rfl, rfl⟩
 have H7 := Lib.hid h7
 clear h7
 go_upto_region 11 with fail
 obtain ⟨ends, HE⟩ : ∃ ends : Bool, Hid (ends = decide (i.kind = 2 ∨ i.kind = 5)) := ⟨_, rfl⟩
 go_cut [3] (fun v wx => v = .bool ends ∧ W0 = wx)
 case first =>
  as_aux_lemma =>
   have he := HE.out
   have h2 := H2.out
   clear HE H2
   rcases (show i.kind = 1 ∨ i.kind = 2 ∨ i.kind = 3 ∨ i.kind = 4 ∨ i.kind = 5 from by omega) with hi | hi | hi | hi | hi
   all_goals
    rw [hi] at he c1
    simp at he
    subst he
    clear hi h2
    go_wp2_with fail
    go_meet
    exact ⟨rfl, rfl⟩
 case rest =>
 obtain ⟨rfl, rfl⟩ := hcut
 obtain ⟨bad, HM⟩ : ∃ bad : Bool, Hid (bad = decide (¬ ((i.matures = 0 ∧ i.kind ≠ 2 ∧ i.kind ≠ 5) ∨ (i.matures ≠ 0 ∧ okDay i.matures ∧ i.issued < i.matures)))) := ⟨_, rfl⟩
 go_upto_region 12 with fail
 go_cut [68] (fun v wx => v = .bool bad ∧ W0 = wx)
 case first =>
  as_aux_lemma =>
   have hm := HM.out
   have he := HE.out
   clear HM HE
   by_cases m0 : i.matures = 0
   ·rw [m0] at c5
    by_cases m1 : i.kind = 2 ∨ i.kind = 5
    ·rw [decide_eq_true m1] at he
     rw [decide_eq_true (by rintro (h | h); exact absurd m1 (by omega); exact h.1 m0)] at hm
     subst he hm
     clear m0 m1
     go_wp2_with fail
     go_meet
     exact ⟨rfl, rfl⟩
    ·rw [decide_eq_false m1] at he
     rw [decide_eq_false (by intro h; exact h (.inl ⟨m0, by omega, by omega⟩))] at hm
     subst he hm
     clear m0 m1
     go_wp2_with fail
     go_meet
     exact ⟨rfl, rfl⟩
   ·have u0 : (i.matures == 0) = false := beq_eq_false_iff_ne.2 m0
    have u1 : (i.matures != 0) = true := by simp [bne, u0]
    by_cases m1 : okDay i.matures
    ·by_cases m2 : i.issued < i.matures
     ·have u2 : decide (i.matures ≤ i.issued) = false := decide_eq_false (by omega)
      rw [decide_eq_false (by intro h; exact h (.inr ⟨m0, m1, m2⟩))] at hm
      subst hm
      have S4 := Lib.hid (rday_yes i.matures m1)
      clear he m0 m1 m2
      go_wp2_with fail
      refine (S4.out _).mono ?_
      rintro e w5 ⟨rfl, rfl⟩
      go_wp2_with fail
      go_meet
      exact ⟨rfl, rfl⟩
     ·have u2 : decide (i.matures ≤ i.issued) = true := decide_eq_true (by omega)
      rw [decide_eq_true (by rintro (h | h); exact m0 h.1; exact m2 h.2.2)] at hm
      subst hm
      have S4 := Lib.hid (rday_yes i.matures m1)
      clear he m0 m1 m2
      go_wp2_with fail
      refine (S4.out _).mono ?_
      rintro e w5 ⟨rfl, rfl⟩
      go_wp2_with fail
      go_meet
      exact ⟨rfl, rfl⟩
    ·rw [decide_eq_true (by rintro (h | h); exact m0 h.1; exact m1 h.2.1)] at hm
     subst hm
     have S4 := Lib.hid (rday_no i.matures m1)
     clear he m0 m1
     go_wp2_with fail
     refine (S4.out _).mono ?_
     rintro e w5 ⟨rfl, rfl⟩
     go_wp2_with fail
     go_meet
     exact ⟨rfl, rfl⟩
 case rest =>
 obtain ⟨rfl, rfl⟩ := hcut
 cases bad
 case true =>
  go_wp2_with fail
  go_ret
  exact ChkPost.bad (by decide) (fun h => by have := HM.out; exact (of_decide_eq_true this.symm) h.matures) HB.out
 have HM := Lib.hid (show (i.matures = 0 ∧ i.kind ≠ 2 ∧ i.kind ≠ 5) ∨ (i.matures ≠ 0 ∧ okDay i.matures ∧ i.issued < i.matures) from Classical.not_not.1 (of_decide_eq_false HM.out.symm))
 go_wp2_with fail
 have hRC : RC w i W0.heap.size (W0.alloc (.cells (numCells i) 25)) := ⟨(Below.heap_alloc W0 _ _ (cell_lt c0)).trans HK.out, heap_alloc_new W0 _, HB.out.alloc HB.out.size _⟩
 generalize hW1 : W0.alloc (.cells (numCells i) 25) = W1 at hRC ⊢
 have HLT : Hid (w.heap.size < W0.heap.size) := cell_lt c0
 generalize W0.heap.size = b at hRC HLT ⊢
 have HRC := Lib.hid hRC
 clear hRC hW1 HB HK hW0 c0 c1 c2 c3 c4 c5 c6 c7 c8 c9 c10 c11 c12 c13 c14
 go_loopw [5, 6] (fun v5 _ wr => ∃ k : Nat, v5 = .int .i64 (k : Int) ∧ k ≤ 3 ∧ (∀ j, j < k → CanQ (nAt i j) (dAt i j)) ∧ RC w i b wr) (fun v5 _ _ => 3 - (intOf v5).toNat)
 case atStart => exact ⟨0, rfl, by omega, fun j hj => by omega, HRC.out⟩
 case round =>
  obtain ⟨k, rfl, hk, hj, hrc⟩ := hrel
  have HJ := Lib.hid hj
  have HRC := Lib.hid hrc
  have d0 := Lib.cell_of_heap hrc.k1 0
  have d1 := Lib.cell_of_heap hrc.k1 1
  have d2 := Lib.cell_of_heap hrc.k1 2
  have d3 := Lib.cell_of_heap hrc.k1 3
  have d4 := Lib.cell_of_heap hrc.k1 4
  have d5 := Lib.cell_of_heap hrc.k1 5
  simp at d0 d1 d2 d3 d4 d5
  clear hj hrc
  have hs := HS.out
  rcases (show k = 0 ∨ k = 1 ∨ k = 2 ∨ k = 3 from by omega) with rfl | rfl | rfl | rfl
  ·have HC := Lib.hid (fun W => rNumber_any i.fn i.fd (by omega) (by omega) W)
   clear hs
   go_wp2_with fail
   refine (HC.out _).mono ?_
   rintro e w2 ⟨m, rfl, hm, hb2⟩
   have HRC2 := Lib.hid (HRC.out.below hb2)
   have HM2 := Lib.hid hm
   clear hm hb2 HRC HC d0 d1 d2 d3 d4 d5
   by_cases h0 : m = 0
   ·have HG := Lib.hid (HM2.out.1 h0)
    subst h0
    go_wp2_with fail
    refine ⟨⟨1, rfl, by omega, fun j hj => ?_, HRC2.out⟩, by simp [intOf]⟩
    rcases Nat.lt_or_ge j 0 with h | h
    ·exact HJ.out j h
    ·have hjk : j = 0 := by omega
     subst hjk
     exact HG.out
   ·have t0 : (m == 0) = false := beq_eq_false_iff_ne.2 h0
    have t1 : (m != 0) = true := by simp [bne, t0]
    have H0 := Lib.hid h0
    clear h0
    go_wp2_with fail
    go_ret
    exact ChkPost.bad H0.out (fun h => H0.out (HM2.out.2 ((numchk_zero (by have := HS.out; omega) (by have := HS.out; omega)).1 h.n1))) HRC2.out.bel
  ·have HC := Lib.hid (fun W => rNumber_any i.cn i.cd (by omega) (by omega) W)
   clear hs
   go_wp2_with fail
   refine (HC.out _).mono ?_
   rintro e w2 ⟨m, rfl, hm, hb2⟩
   have HRC2 := Lib.hid (HRC.out.below hb2)
   have HM2 := Lib.hid hm
   clear hm hb2 HRC HC d0 d1 d2 d3 d4 d5
   by_cases h0 : m = 0
   ·have HG := Lib.hid (HM2.out.1 h0)
    subst h0
    go_wp2_with fail
    refine ⟨⟨2, rfl, by omega, fun j hj => ?_, HRC2.out⟩, by simp [intOf]⟩
    rcases Nat.lt_or_ge j 1 with h | h
    ·exact HJ.out j h
    ·have hjk : j = 1 := by omega
     subst hjk
     exact HG.out
   ·have t0 : (m == 0) = false := beq_eq_false_iff_ne.2 h0
    have t1 : (m != 0) = true := by simp [bne, t0]
    have H0 := Lib.hid h0
    clear h0
    go_wp2_with fail
    go_ret
    exact ChkPost.bad H0.out (fun h => H0.out (HM2.out.2 ((numchk_zero (by have := HS.out; omega) (by have := HS.out; omega)).1 h.n2))) HRC2.out.bel
  ·have HC := Lib.hid (fun W => rNumber_any i.sn i.sd (by omega) (by omega) W)
   clear hs
   go_wp2_with fail
   refine (HC.out _).mono ?_
   rintro e w2 ⟨m, rfl, hm, hb2⟩
   have HRC2 := Lib.hid (HRC.out.below hb2)
   have HM2 := Lib.hid hm
   clear hm hb2 HRC HC d0 d1 d2 d3 d4 d5
   by_cases h0 : m = 0
   ·have HG := Lib.hid (HM2.out.1 h0)
    subst h0
    go_wp2_with fail
    refine ⟨⟨3, rfl, by omega, fun j hj => ?_, HRC2.out⟩, by simp [intOf]⟩
    rcases Nat.lt_or_ge j 2 with h | h
    ·exact HJ.out j h
    ·have hjk : j = 2 := by omega
     subst hjk
     exact HG.out
   ·have t0 : (m == 0) = false := beq_eq_false_iff_ne.2 h0
    have t1 : (m != 0) = true := by simp [bne, t0]
    have H0 := Lib.hid h0
    clear h0
    go_wp2_with fail
    go_ret
    exact ChkPost.bad H0.out (fun h => H0.out (HM2.out.2 ((numchk_zero (by have := HS.out; omega) (by have := HS.out; omega)).1 h.n3))) HRC2.out.bel
  ·have Q1 := Lib.hid (show CanQ i.fn i.fd from HJ.out 0 (by omega))
   have Q2 := Lib.hid (show CanQ i.cn i.cd from HJ.out 1 (by omega))
   have Q3 := Lib.hid (show CanQ i.sn i.sd from HJ.out 2 (by omega))
   clear hs HJ d0 d1 d2 d3 d4 d5
   go_upto_region 22 with fail
   have hRZ : RZ w i wr.heap.size (wr.alloc (.cells #[.string ⟨#[]⟩, .string ⟨#[]⟩] 25)) := ⟨(Below.heap_alloc wr _ _ (Array.getElem?_eq_some_iff.1 HRC.out.k0).1).trans HRC.out.k0, heap_alloc_new wr _, HRC.out.bel.alloc HRC.out.bel.size _⟩
   generalize wr.alloc (.cells #[.string ⟨#[]⟩, .string ⟨#[]⟩] 25) = W3 at hRZ ⊢
   generalize wr.heap.size = zb at hRZ ⊢
   have HRZ := Lib.hid hRZ
   have c0 := Lib.cell_of_heap hRZ.k0 0
   have c1 := Lib.cell_of_heap hRZ.k0 1
   have c2 := Lib.cell_of_heap hRZ.k0 2
   have c3 := Lib.cell_of_heap hRZ.k0 3
   have c4 := Lib.cell_of_heap hRZ.k0 4
   have c5 := Lib.cell_of_heap hRZ.k0 5
   have c6 := Lib.cell_of_heap hRZ.k0 6
   have c7 := Lib.cell_of_heap hRZ.k0 7
   have c8 := Lib.cell_of_heap hRZ.k0 8
   have c9 := Lib.cell_of_heap hRZ.k0 9
   have c10 := Lib.cell_of_heap hRZ.k0 10
   have c11 := Lib.cell_of_heap hRZ.k0 11
   have c12 := Lib.cell_of_heap hRZ.k0 12
   have c13 := Lib.cell_of_heap hRZ.k0 13
   have c14 := Lib.cell_of_heap hRZ.k0 14
   have y0 := Lib.cell_of_heap hRZ.kz 0
   have y1 := Lib.cell_of_heap hRZ.kz 1
   simp at c0 c1 c2 c3 c4 c5 c6 c7 c8 c9 c10 c11 c12 c13 c14 y0 y1
   clear hRZ HRC HLT
   obtain ⟨g1, g2, g3, g4, g5, g6⟩ := HS.out
   have kk : i.kind = 2 := HKIND.out
   ·have KK := Lib.hid kk
    rw [kk] at c1
    clear kk
    have SF := Lib.hid (fun W => rfSign_any i.fn i.fd (by omega) (by omega) Q1.out W)
    have SC := Lib.hid (fun W => rfSign_any i.cn i.cd (by omega) (by omega) Q2.out W)
    go_upto_region 23 with fail
    obtain ⟨mo, HMO⟩ : ∃ mo : Bool, Hid (mo = decide (i.months ∈ monthsL)) := ⟨_, rfl⟩
    go_cut [8] (fun v wx => v = .bool mo ∧ W3 = wx)
    case first =>
     as_aux_lemma =>
      have hm := HMO.out
      clear HMO
      unfold monthsL at hm
      by_cases n1 : i.months = 1
      ·rw [n1] at hm c10
       simp at hm
       subst hm
       clear n1
       go_wp2_with fail
       go_meet
       exact ⟨rfl, rfl⟩
      have p1 : (i.months == 1) = false := beq_eq_false_iff_ne.2 n1
      by_cases n2 : i.months = 2
      ·rw [n2] at hm c10
       simp at hm
       subst hm
       clear n2
       go_wp2_with fail
       go_meet
       exact ⟨rfl, rfl⟩
      have p2 : (i.months == 2) = false := beq_eq_false_iff_ne.2 n2
      by_cases n3 : i.months = 3
      ·rw [n3] at hm c10
       simp at hm
       subst hm
       clear n3
       go_wp2_with fail
       go_meet
       exact ⟨rfl, rfl⟩
      have p3 : (i.months == 3) = false := beq_eq_false_iff_ne.2 n3
      by_cases n4 : i.months = 4
      ·rw [n4] at hm c10
       simp at hm
       subst hm
       clear n4
       go_wp2_with fail
       go_meet
       exact ⟨rfl, rfl⟩
      have p4 : (i.months == 4) = false := beq_eq_false_iff_ne.2 n4
      by_cases n6 : i.months = 6
      ·rw [n6] at hm c10
       simp at hm
       subst hm
       clear n6
       go_wp2_with fail
       go_meet
       exact ⟨rfl, rfl⟩
      have p6 : (i.months == 6) = false := beq_eq_false_iff_ne.2 n6
      by_cases n12 : i.months = 12
      ·rw [n12] at hm c10
       simp at hm
       subst hm
       clear n12
       go_wp2_with fail
       go_meet
       exact ⟨rfl, rfl⟩
      have p12 : (i.months == 12) = false := beq_eq_false_iff_ne.2 n12
      rw [decide_eq_false (by intro hh; simp at hh; omega)] at hm
      subst hm
      clear n1 n2 n3 n4 n6 n12
      go_wp2_with fail
      go_meet
      exact ⟨rfl, rfl⟩
    case rest =>
    obtain ⟨rfl, rfl⟩ := hcut
    go_wp2_with fail
    refine (SF.out _).mono ?_
    rintro e w4 ⟨rfl, b4⟩
    have R4 := Lib.hid (HRZ.out.below b4)
    clear c0 c1 c2 c3 c4 c5 c6 c7 c8 c9 c10 c11 c12 c13 c14 y0 y1
    clear HRZ b4 SF
    have h4 := R4.out
    have c0 := Lib.cell_of_heap h4.k0 0
    have c1 := Lib.cell_of_heap h4.k0 1
    have c2 := Lib.cell_of_heap h4.k0 2
    have c3 := Lib.cell_of_heap h4.k0 3
    have c4 := Lib.cell_of_heap h4.k0 4
    have c5 := Lib.cell_of_heap h4.k0 5
    have c6 := Lib.cell_of_heap h4.k0 6
    have c7 := Lib.cell_of_heap h4.k0 7
    have c8 := Lib.cell_of_heap h4.k0 8
    have c9 := Lib.cell_of_heap h4.k0 9
    have c10 := Lib.cell_of_heap h4.k0 10
    have c11 := Lib.cell_of_heap h4.k0 11
    have c12 := Lib.cell_of_heap h4.k0 12
    have c13 := Lib.cell_of_heap h4.k0 13
    have c14 := Lib.cell_of_heap h4.k0 14
    have y0 := Lib.cell_of_heap h4.kz 0
    have y1 := Lib.cell_of_heap h4.kz 1
    simp at c0 c1 c2 c3 c4 c5 c6 c7 c8 c9 c10 c11 c12 c13 c14 y0 y1
    clear h4
    rw [KK.out] at c1
    have hf := (cmpI_le (x := vl i.fn) (y := 0))
    generalize cmpI (vl i.fn) 0 = rf at hf ⊢
    have HF := Lib.hid hf
    clear hf
    by_cases f0 : rf ≤ 0
    ·have t0 : decide (rf ≤ 0) = true := decide_eq_true f0
     go_wp2_with fail
     go_ret
     exact ChkPost.bad (by decide) (fun h => by have := (h.bond KK.out).1; have := HF.out.1 f0; omega) R4.out.bel
    have t0 : decide (rf ≤ 0) = false := decide_eq_false f0
    have HF := Lib.hid (show 0 < vl i.fn from Int.not_le.1 (fun hh => f0 (HF.out.2 hh)))
    clear f0
    go_wp2_with fail
    refine (SC.out _).mono ?_
    rintro e w5 ⟨rfl, b5⟩
    have R5 := Lib.hid (R4.out.below b5)
    clear c0 c1 c2 c3 c4 c5 c6 c7 c8 c9 c10 c11 c12 c13 c14 y0 y1
    clear R4 b5 SC t0
    have h5 := R5.out
    have c0 := Lib.cell_of_heap h5.k0 0
    have c1 := Lib.cell_of_heap h5.k0 1
    have c2 := Lib.cell_of_heap h5.k0 2
    have c3 := Lib.cell_of_heap h5.k0 3
    have c4 := Lib.cell_of_heap h5.k0 4
    have c5 := Lib.cell_of_heap h5.k0 5
    have c6 := Lib.cell_of_heap h5.k0 6
    have c7 := Lib.cell_of_heap h5.k0 7
    have c8 := Lib.cell_of_heap h5.k0 8
    have c9 := Lib.cell_of_heap h5.k0 9
    have c10 := Lib.cell_of_heap h5.k0 10
    have c11 := Lib.cell_of_heap h5.k0 11
    have c12 := Lib.cell_of_heap h5.k0 12
    have c13 := Lib.cell_of_heap h5.k0 13
    have c14 := Lib.cell_of_heap h5.k0 14
    have y0 := Lib.cell_of_heap h5.kz 0
    have y1 := Lib.cell_of_heap h5.kz 1
    simp at c0 c1 c2 c3 c4 c5 c6 c7 c8 c9 c10 c11 c12 c13 c14 y0 y1
    clear h5
    rw [KK.out] at c1
    have hf := (cmpI_lt (x := vl i.cn) (y := 0))
    generalize cmpI (vl i.cn) 0 = rc at hf ⊢
    have HCC := Lib.hid hf
    clear hf
    by_cases f0 : rc < 0
    ·have t0 : decide (rc < 0) = true := decide_eq_true f0
     go_wp2_with fail
     go_ret
     exact ChkPost.bad (by decide) (fun h => by have := (h.bond KK.out).2.1; have := HCC.out.1 f0; omega) R5.out.bel
    have t0 : decide (rc < 0) = false := decide_eq_false f0
    have HCC := Lib.hid (show 0 ≤ vl i.cn from Int.not_lt.1 (fun hh => f0 (HCC.out.2 hh)))
    clear f0
    cases mo
    ·clear HF HCC
     go_wp2_with fail
     go_ret
     exact ChkPost.bad (by decide) (fun h => by exact (of_decide_eq_false HMO.out.symm) (h.bond KK.out).2.2.1) R5.out.bel
    have HMO := Lib.hid (of_decide_eq_true HMO.out.symm)
    by_cases f1 : i.count < 1
    ·have t1 : decide (i.count < 1) = true := decide_eq_true f1
     go_wp2_with fail
     go_ret
     exact ChkPost.bad (by decide) (fun h => by have := (h.bond KK.out).2.2.2.1; omega) R5.out.bel
    have t1 : decide (i.count < 1) = false := decide_eq_false f1
    by_cases f2 : 5 < i.count
    ·have t2 : decide (5 < i.count) = true := decide_eq_true f2
     go_wp2_with fail
     go_ret
     exact ChkPost.bad (by decide) (fun h => by have := (h.bond KK.out).2.2.2.2.1; omega) R5.out.bel
    have t2 : decide (5 < i.count) = false := decide_eq_false f2
    have HCT := Lib.hid (show 1 ≤ i.count ∧ i.count ≤ 5 by omega)
    clear f1 f2
    by_cases f3 : i.other = ⟨#[]⟩
    case neg =>
     have t3 := ne_nil f3
     have F3 := Lib.hid f3
     clear f3
     go_wp2_with fail
     go_ret
     exact ChkPost.bad (by decide) (fun h => by exact F3.out (h.bond KK.out).2.2.2.2.2.1) R5.out.bel
    have F3 := Lib.hid f3
    rw [f3] at c12
    clear f3
    by_cases f4 : i.sn = ⟨#[]⟩
    case neg =>
     have t4 := ne_nil f4
     have F4 := Lib.hid f4
     clear f4
     go_wp2_with fail
     go_ret
     exact ChkPost.bad (by decide) (fun h => by exact F4.out ((canQ_zero Q3.out).1.1 (h.bond KK.out).2.2.2.2.2.2)) R5.out.bel
    have F4 := Lib.hid ((canQ_zero Q3.out).1.2 f4)
    have f5 := (canQ_zero Q3.out).2 f4
    rw [f4] at c13
    rw [f5] at c14
    clear f4 f5
    go_wp2_with fail
    go_ret
    exact ChkPost.good ⟨H1.out, H2.out, H4.out, H5.out, H7.out, HM.out, (numchk_zero (by omega) (by omega)).2 Q1.out, (numchk_zero (by omega) (by omega)).2 Q2.out, (numchk_zero (by omega) (by omega)).2 Q3.out, fun hh => absurd KK.out hh, fun _ => ⟨HF.out, HCC.out, HMO.out, HCT.out.1, HCT.out.2, F3.out, F4.out⟩, fun hh => by have := KK.out; omega⟩ R5.out.bel
end Go.Proofs.YtcnmoobojdopgaaGreatDoor
