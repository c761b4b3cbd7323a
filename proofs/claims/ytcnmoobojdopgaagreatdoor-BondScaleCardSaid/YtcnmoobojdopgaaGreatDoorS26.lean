/-
  The walk of instrument.Check: 0 exactly where valid. (Printed by gen_ins10.py.)
-/
import Derived.Test.YtcnmoobojdopgaaGreatDoorS25
set_option linter.unusedVariables false
set_option linter.unusedSimpArgs false
set_option maxHeartbeats 16000000
set_option maxRecDepth 100000
namespace Go.Proofs.YtcnmoobojdopgaaGreatDoor
open Go.RowKit Tr Go.Shelf
def endOk (i : Inst) (ends : Bool) : Prop := (i.matures = 0 ∧ ends = false) ∨ (i.matures ≠ 0 ∧ okDay i.matures ∧ i.issued < i.matures)
structure ChkAll (i : Inst) (ends : Bool) (P : Prop) : Prop where
 id : nameOk i.id = true
 kind : 1 ≤ i.kind ∧ i.kind ≤ 5
 cur : codeOk i.cur = true
 places : 0 ≤ i.places ∧ i.places ≤ 12
 issued : okDay i.issued
 matures : endOk i ends
 n1 : numchk i.fn i.fd = 0
 n2 : numchk i.cn i.cd = 0
 n3 : numchk i.sn i.sd = 0
 own : P
theorem iCheck_kind (i : Inst) (hs : i.sized) (hkd : ¬ (1 ≤ i.kind ∧ i.kind ≤ 5)) (w : World) (ht : Tabs w) : Calls Tryz.prog 83 #[i.enc] w (ChkPost w i.ok) := by
 obtain ⟨W0, hW0, hB0, hz, hk⟩ := ibox i w
 obtain ⟨c0, c1, c2, c3, c4, c5, c6, c7, c8, c9, c10, c11, c12, c13, c14⟩ := cells15 hk
 have HB := Lib.hid hB0
 have HK : Hid (InstBox W0 w.heap.size i) := hk
 obtain ⟨z1, z2, z3, z4, z5, z6, z7, z8, z9⟩ := hs
 have HT := Lib.hid ht
 have S1 := Lib.hid (fun W => Name_any i.id (by omega) W)
 have S2 := Lib.hid (fun W => isCode_any i.cur (by omega) W)
 have S3 := Lib.hid (fun W => ivalid_any i.issued W)
 have S4 := Lib.hid (fun W => ivalid_any i.matures W)
 have N1 := Lib.hid (fun W hW => inumber_any i.fn i.fd (by omega) (by omega) W hW)
 have N2 := Lib.hid (fun W hW => inumber_any i.cn i.cd (by omega) (by omega) W hW)
 have N3 := Lib.hid (fun W hW => inumber_any i.sn i.sd (by omega) (by omega) W hW)
 clear hk hB0 hz z1 z2 z3 z4 z5 z6 z7 z8 z9 ht
 have HKD := Lib.hid hkd
 clear hkd
 unfold Inst.enc Inst.cells at *
 go_enter Tryz.func83, Tryz.ntmps83
 go_wp2_with fail
 refine (S1.out W0).mono ?_
 rintro e w1 ⟨rfl, b1⟩
 have hk1 := HK.out.below b1
 replace HB := Lib.hid (HB.out.trans (b1.mono HB.out.size))
 clear c0 c1 c2 c3 c4 c5 c6 c7 c8 c9 c10 c11 c12 c13 c14
 obtain ⟨c0, c1, c2, c3, c4, c5, c6, c7, c8, c9, c10, c11, c12, c13, c14⟩ := cells15 hk1
 replace HK := Lib.hid hk1
 clear b1 hk1 S1 hW0
 by_cases h1 : nameOk i.id = true
 case neg =>
  rw [Bool.not_eq_true] at h1
  rw [h1]
  have H := Lib.hid h1
  clear h1
  go_wp2_with fail
  go_ret
  exact ChkPost.bad (by decide) (fun h => by have := h.id; rw [H.out] at this; cases this) HB.out
 rw [h1]
 have Hh1 := Lib.hid h1
 clear h1
 by_cases h2 : i.kind < 1
 ·have t2 : decide (i.kind < 1) = true := decide_eq_true h2
  have H := Lib.hid h2
  clear h2
  go_wp2_with fail
  go_ret
  exact ChkPost.bad (by decide) (fun h => HKD.out h.kind) HB.out
 have t2 : decide (i.kind < 1) = false := decide_eq_false h2
 have t3 : decide (5 < i.kind) = true := decide_eq_true (by have := HKD.out; omega)
 clear h2
 go_wp2_with fail
 go_ret
 exact ChkPost.bad (by decide) (fun h => HKD.out h.kind) HB.out
def LoopN (i : Inst) (k : Nat) : Prop := (1 ≤ k → numchk i.fn i.fd = 0) ∧ (2 ≤ k → numchk i.cn i.cd = 0) ∧ (3 ≤ k → numchk i.sn i.sd = 0)
theorem iCheck_all (i : Inst) (hs : i.sized) (ends : Bool) (f : Nat) (P : Prop) (hen : ∀ args w, (callFunc f args).run Tryz.prog w = .ok (.enter f args) w)
 (hix : ∀ w, Sem.run Tryz.prog (Instr.index 180 (Value.agg ruleCells) (.int .i64 i.kind)) w = .ok (.agg #[.bool ends, .func (.func f) #[] #[]]) w)
 (hf : ∀ W, Calls Tryz.prog f #[i.enc] W (ChkPost W P)) (hkd : 1 ≤ i.kind ∧ i.kind ≤ 5) (w : World) (ht : Tabs w) :
 Calls Tryz.prog 83 #[i.enc] w (ChkPost w (ChkAll i ends P)) := by
 obtain ⟨W0, hW0, hB0, hz, hk⟩ := ibox i w
 obtain ⟨c0, c1, c2, c3, c4, c5, c6, c7, c8, c9, c10, c11, c12, c13, c14⟩ := cells15 hk
 have HB := Lib.hid hB0
 have HK : Hid (InstBox W0 w.heap.size i) := hk
 obtain ⟨z1, z2, z3, z4, z5, z6, z7, z8, z9⟩ := hs
 have HT := Lib.hid ht
 have S1 := Lib.hid (fun W => Name_any i.id (by omega) W)
 have S2 := Lib.hid (fun W => isCode_any i.cur (by omega) W)
 have S3 := Lib.hid (fun W => ivalid_any i.issued W)
 have S4 := Lib.hid (fun W => ivalid_any i.matures W)
 have N1 := Lib.hid (fun W hW => inumber_any i.fn i.fd (by omega) (by omega) W hW)
 have N2 := Lib.hid (fun W hW => inumber_any i.cn i.cd (by omega) (by omega) W hW)
 have N3 := Lib.hid (fun W hW => inumber_any i.sn i.sd (by omega) (by omega) W hW)
 clear hk hB0 hz z1 z2 z3 z4 z5 z6 z7 z8 z9 ht
 have HF := Lib.hid hf
 have HKD := Lib.hid hkd
 have q1 : decide (i.kind < 1) = false := decide_eq_false (by omega)
 have q2 : decide (5 < i.kind) = false := decide_eq_false (by omega)
 clear hf hkd
 unfold Inst.enc Inst.cells at *
 go_enter Tryz.func83, Tryz.ntmps83
 go_wp2_with fail
 refine (S1.out W0).mono ?_
 rintro e w2 ⟨rfl, b1⟩
 have hk1 := HK.out.below b1
 replace HB := Lib.hid (HB.out.trans (b1.mono HB.out.size))
 clear c0 c1 c2 c3 c4 c5 c6 c7 c8 c9 c10 c11 c12 c13 c14
 obtain ⟨c0, c1, c2, c3, c4, c5, c6, c7, c8, c9, c10, c11, c12, c13, c14⟩ := cells15 hk1
 replace HK := Lib.hid hk1
 clear b1 hk1 S1 hW0
 by_cases h1 : nameOk i.id = true
 case neg =>
  rw [Bool.not_eq_true] at h1
  rw [h1]
  have H := Lib.hid h1
  clear h1
  go_wp2_with fail
  go_ret
  exact ChkPost.bad (by decide) (fun h => by have := h.id; rw [H.out] at this; cases this) HB.out
 rw [h1]
 have Hh1 := Lib.hid h1
 clear h1
 go_wp2_with fail
 refine (S2.out _).mono ?_
 rintro e w3 ⟨rfl, b1⟩
 have hk1 := HK.out.below b1
 replace HB := Lib.hid (HB.out.trans (b1.mono HB.out.size))
 clear c0 c1 c2 c3 c4 c5 c6 c7 c8 c9 c10 c11 c12 c13 c14
 obtain ⟨c0, c1, c2, c3, c4, c5, c6, c7, c8, c9, c10, c11, c12, c13, c14⟩ := cells15 hk1
 replace HK := Lib.hid hk1
 clear b1 hk1 S2
 by_cases h2 : codeOk i.cur = true
 case neg =>
  rw [Bool.not_eq_true] at h2
  rw [h2]
  have H := Lib.hid h2
  clear h2
  go_wp2_with fail
  go_ret
  exact ChkPost.bad (by decide) (fun h => by have := h.cur; rw [H.out] at this; cases this) HB.out
 rw [h2]
 have Hh2 := Lib.hid h2
 clear h2
 by_cases h3 : i.places < 0
 ·have t3 : decide (i.places < 0) = true := decide_eq_true h3
  have H := Lib.hid h3
  clear h3
  go_wp2_with fail
  go_ret
  exact ChkPost.bad (by decide) (fun h => by have := h.places; have := H.out; omega) HB.out
 by_cases h4 : 12 < i.places
 ·have t3 : decide (i.places < 0) = false := decide_eq_false h3
  have t4 : decide (12 < i.places) = true := decide_eq_true h4
  have H := Lib.hid h4
  clear h3 h4
  go_wp2_with fail
  go_ret
  exact ChkPost.bad (by decide) (fun h => by have := h.places; have := H.out; omega) HB.out
 have q3 : decide (i.places < 0) = false := decide_eq_false h3
 have q4 : decide (12 < i.places) = false := decide_eq_false h4
 have Hh3 := Lib.hid (show 0 ≤ i.places ∧ i.places ≤ 12 by omega)
 clear h3 h4
 go_wp2_with fail
 refine (S3.out _).mono ?_
 rintro e w3 ⟨rfl, rfl⟩
 clear S3
 by_cases h5 : okDay i.issued
 case neg =>
  rw [decide_eq_false h5]
  have H := Lib.hid h5
  clear h5
  go_wp2_with fail
  go_ret
  exact ChkPost.bad (by decide) (fun h => H.out h.issued) HB.out
 rw [decide_eq_true h5]
 have Hh5 := Lib.hid h5
 clear h5
 have HB2 := HB
 have HK2 := HK
 go_wp2_with fail
 go_cut [3] (fun v3 wx => ∃ (B : Nat) (wr : World), v3 = .pointer (some ⟨B, 0, none⟩) ∧ RuleBox wr B ends f ∧ InstBox wr w.heap.size i ∧ Below w.heap.size w wr ∧ wr = wx)
 case first =>
  have hl3 : w.heap.size < w3.heap.size := cell_lt c1
  have ka : (w3.drew.alloc (.cells #[.bool false, .nilFunc] 179)).cell? ⟨w.heap.size, 1, none⟩ = some (.int .i64 i.kind) := by
   rw [Lib.cell_of_heap (HK2.out.below ((Below.refl _ w3).drew.alloc (Nat.le_refl _) _))]; rfl
  go_region_with (go_at_call 150; refine (rules_any _).mono ?_; rintro e w4 ⟨rfl, b4⟩; have kk : InstBox w4 w.heap.size i := (by first | exact (show InstBox w3.drew _ _ from HK2.out).below b4 | exact (HK2.out.below ((Below.refl _ w3).drew.alloc (Nat.le_refl _) _)).below b4); have k1 : w4.cell? ⟨w.heap.size, 1, none⟩ = some (.int .i64 i.kind) := (by rw [Lib.cell_of_heap kk]; rfl); have k2 : (w4.alloc (.cells #[.bool false, .nilFunc] 179)).cell? ⟨w.heap.size, 1, none⟩ = some (.int .i64 i.kind) := (by rw [Lib.cell_of_heap (kk.below ((Below.refl _ w4).alloc (Nat.le_refl _) _))]; rfl); have nb : (w4.alloc (.cells #[.bool false, .nilFunc] 179)).heap[w4.heap.size]? = some (.cells #[.bool false, .nilFunc] 179 (0, 0)) := heap_alloc_new w4 _; have n0 := Lib.cell_of_heap nb 0; have n1 := Lib.cell_of_heap nb 1; have n2 := Lib.frozen_of_heap nb 0; have n3 := Lib.frozen_of_heap nb 1; simp at n0 n1 n2 n3; have NB := Lib.hid nb; clear nb; try (have rb : w4.heap[w3.heap.size]? = some (.cells #[.bool false, .nilFunc] 179 (0, 0)) := (b4.block w3.heap.size (by simp)).trans (heap_alloc_new w3.drew _); have r0 := Lib.cell_of_heap rb 0; have r1 := Lib.cell_of_heap rb 1; have r2 := Lib.frozen_of_heap rb 0; have r3 := Lib.frozen_of_heap rb 1; simp at r0 r1 r2 r3; have RB := Lib.hid rb; clear rb); have KK := Lib.hid kk; have B4 := Lib.hid b4; clear kk b4)
  all_goals (first | go_wp2_with fail | skip)
  all_goals go_meet
  all_goals first
   | (refine ⟨w4.heap.size, _, rfl, heap_alloc_new w4 _, (show InstBox w4 w.heap.size i from by first | exact KK.out | assumption).below ((Below.refl _ w4).alloc (Nat.le_refl _) _), ?_, rfl⟩
      have q := HB2.out.drew.trans ((show Below w3.drew.heap.size w3.drew w4 from by first | exact B4.out | assumption).mono HB2.out.size)
      exact q.alloc q.size _)
   | (refine ⟨w3.heap.size, _, rfl, set2 RB.out _ _, (Below.heap_setCell _ _ _ _ (by simp; omega)).trans ((Below.heap_setCell _ _ _ _ (by simp; omega)).trans KK.out), ?_, rfl⟩
      have q0 := HB2.out.drew.alloc HB2.out.size (Obj.cells #[.bool false, .nilFunc] 179)
      have q := q0.trans (B4.out.mono (by have := HB2.out.size; simp; omega))
      exact (q.setCell (p := ⟨w3.heap.size, 0, none⟩) (by simp; have := HB2.out.size; omega) _).setCell (p := ⟨w3.heap.size, 1, none⟩) (by simp; have := HB2.out.size; omega) _)
 case rest =>
  obtain ⟨B, wr, rfl, hRB, hIB, hBB, rfl⟩ := hcut
  obtain ⟨d0, d1, d2, d3, d4, d5, d6, d7, d8, d9, d10, d11, d12, d13, d14⟩ := cells15 hIB
  have r0 := Lib.cell_of_heap hRB 0
  have r1 := Lib.cell_of_heap hRB 1
  simp at r0 r1
  have HRB := Lib.hid hRB
  have HIB := Lib.hid hIB
  have HBB := Lib.hid hBB
  clear hRB hIB hBB HB HK HB2 HK2
  clear c0 c1 c2 c3 c4 c5 c6 c7 c8 c9 c10 c11 c12 c13 c14
  go_upto_region 12 with fail
  obtain ⟨bad, HM⟩ : ∃ bad : Bool, Hid ((bad = true ∧ ¬ endOk i ends) ∨ (bad = false ∧ endOk i ends)) := by
   by_cases h : endOk i ends
   ·exact ⟨false, .inr ⟨rfl, h⟩⟩
   ·exact ⟨true, .inl ⟨rfl, h⟩⟩
  go_cut [68] (fun v wx => v = .bool bad ∧ wr = wx)
  case first =>
   have hgood : endOk i ends → bad = false := fun e => HM.out.elim (fun h => absurd e h.2) (fun h => h.1)
   have hbad : ¬ endOk i ends → bad = true := fun e => HM.out.elim (fun h => h.1) (fun h => absurd h.2 e)
   clear HM
   unfold endOk at hgood hbad
   by_cases m0 : i.matures = 0
   ·rw [m0] at d5
    cases ends
    ·have hm := hgood (.inl ⟨m0, rfl⟩)
     subst hm
     clear hgood hbad
     clear m0
     go_wp2_with fail
     go_meet
     exact ⟨rfl, rfl⟩
    ·have hm := hbad (by rintro (h | h); exact absurd h.2 (by decide); exact h.1 m0)
     subst hm
     clear hgood hbad
     clear m0
     go_wp2_with fail
     go_meet
     exact ⟨rfl, rfl⟩
   ·have t1 : (i.matures == 0) = false := beq_eq_false_iff_ne.2 m0
    have t1' : (i.matures != 0) = true := by rw [bne, t1]; rfl
    by_cases m1 : okDay i.matures
    ·by_cases m2 : i.matures ≤ i.issued
     ·have t2 : decide (i.matures ≤ i.issued) = true := decide_eq_true m2
      have hm := hbad (by rintro (h | h); exact m0 h.1; have := h.2.2; omega)
      subst hm
      clear hgood hbad
      clear m0 m2
      go_wp2_with fail
      refine (S4.out _).mono ?_
      rintro e w5 ⟨rfl, rfl⟩
      rw [decide_eq_true m1]
      go_wp2_with fail
      go_meet
      exact ⟨rfl, rfl⟩
     ·have t2 : decide (i.matures ≤ i.issued) = false := decide_eq_false m2
      have hm := hgood (.inr ⟨m0, m1, by omega⟩)
      subst hm
      clear hgood hbad
      clear m0 m2
      go_wp2_with fail
      refine (S4.out _).mono ?_
      rintro e w5 ⟨rfl, rfl⟩
      rw [decide_eq_true m1]
      go_wp2_with fail
      go_meet
      exact ⟨rfl, rfl⟩
    ·have hm := hbad (by rintro (h | h); exact m0 h.1; exact m1 h.2.1)
     subst hm
     clear hgood hbad
     clear m0
     go_wp2_with fail
     refine (S4.out _).mono ?_
     rintro e w5 ⟨rfl, rfl⟩
     rw [decide_eq_false m1]
     go_wp2_with fail
     go_meet
     exact ⟨rfl, rfl⟩
  case rest =>
   obtain ⟨rfl, rfl⟩ := hcut
   cases bad
   case true =>
    go_wp2_with fail
    go_ret
    exact ChkPost.bad (by decide) (fun h => HM.out.elim (fun x => x.2 h.matures) (fun x => Bool.noConfusion x.1)) HBB.out
   have HE : Hid (endOk i ends) := HM.out.elim (fun x => Bool.noConfusion x.1) (fun x => x.2)
   clear HM
   obtain ⟨W5, hW5⟩ : ∃ W5, wr.alloc (.cells (nsCells i) 25) = W5 := ⟨_, rfl⟩
   have kS : NsBox W5 wr.heap.size i := by rw [← hW5]; exact heap_alloc_new wr _
   have b5 : Below wr.heap.size wr W5 := by rw [← hW5]; exact (Below.refl _ wr).alloc (Nat.le_refl _) _
   have hsz : w.heap.size ≤ wr.heap.size := HBB.out.size
   have HS5 : Hid (LoopS w wr.heap.size B ends f i W5) := ⟨kS, HRB.out.below b5, HIB.out.below b5, HBB.out.trans (b5.mono hsz)⟩
   clear kS b5 S4 HRB HIB HBB
   clear r0 r1
   clear d0 d1 d2 d3 d4 d5 d10 d11 d12
   unfold nsCells at hW5
   go_wp2_with fail
   go_loopw [77] (fun v wx => ∃ k : Nat, v = .int .i64 (k : Int) ∧ k ≤ 3 ∧ LoopN i k ∧ LoopS w wr.heap.size B ends f i wx) (fun v _ => 3 - (intOf v).toNat)
   case atStart => exact ⟨0, rfl, by omega, ⟨fun h => by omega, fun h => by omega, fun h => by omega⟩, HS5.out⟩
   case round =>
    obtain ⟨k, rfl, hk3, hLN, hL⟩ := hrel
    clear HS5 hW5
    have n0 := Lib.cell_of_heap hL.ns 0
    have n1 := Lib.cell_of_heap hL.ns 1
    have n2 := Lib.cell_of_heap hL.ns 2
    have n3 := Lib.cell_of_heap hL.ns 3
    have n4 := Lib.cell_of_heap hL.ns 4
    have n5 := Lib.cell_of_heap hL.ns 5
    simp at n0 n1 n2 n3 n4 n5
    have HL := Lib.hid hL
    have HLN := Lib.hid hLN
    clear hLN
    rcases (show k = 0 ∨ k = 1 ∨ k = 2 ∨ k = 3 from by omega) with rfl | rfl | rfl | rfl
    ·clear hL
     go_wp2_with fail
     refine (N1.out _ (HT.out.below (HL.out.be.trans (((Below.refl _ _).alloc (Nat.le_refl _) _).mono HL.out.be.size)))).mono ?_
     rintro e w6 ⟨rfl, b6⟩
     have HL6 := Lib.hid ((HL.out.below ((Below.refl _ _).alloc (Nat.le_refl _) _)).below b6)
     clear b6
     by_cases hn : numchk i.fn i.fd = 0
     case neg =>
      have tn : (numchk i.fn i.fd == 0) = false := beq_eq_false_iff_ne.2 hn
      have tn' : (numchk i.fn i.fd != 0) = true := by rw [bne, tn]; rfl
      have H := Lib.hid hn
      clear hn
      go_wp2_with fail
      go_ret
      exact ChkPost.bad H.out (fun h => H.out h.n1) HL6.out.be
     have HN := Lib.hid hn
     rw [hn]
     clear hn
     go_wp2_with fail
     go_roundw
     case rel => exact ⟨1, rfl, by omega, ⟨fun _ => HN.out, fun h => by omega, fun h => by omega⟩, HL6.out⟩
     case measure => simp [intOf]
    ·clear hL
     go_wp2_with fail
     refine (N2.out _ (HT.out.below (HL.out.be.trans (((Below.refl _ _).alloc (Nat.le_refl _) _).mono HL.out.be.size)))).mono ?_
     rintro e w6 ⟨rfl, b6⟩
     have HL6 := Lib.hid ((HL.out.below ((Below.refl _ _).alloc (Nat.le_refl _) _)).below b6)
     clear b6
     by_cases hn : numchk i.cn i.cd = 0
     case neg =>
      have tn : (numchk i.cn i.cd == 0) = false := beq_eq_false_iff_ne.2 hn
      have tn' : (numchk i.cn i.cd != 0) = true := by rw [bne, tn]; rfl
      have H := Lib.hid hn
      clear hn
      go_wp2_with fail
      go_ret
      exact ChkPost.bad H.out (fun h => H.out h.n2) HL6.out.be
     have HN := Lib.hid hn
     rw [hn]
     clear hn
     go_wp2_with fail
     go_roundw
     case rel => exact ⟨2, rfl, by omega, ⟨fun _ => HLN.out.1 (by omega), fun _ => HN.out, fun h => by omega⟩, HL6.out⟩
     case measure => simp [intOf]
    ·clear hL
     go_wp2_with fail
     refine (N3.out _ (HT.out.below (HL.out.be.trans (((Below.refl _ _).alloc (Nat.le_refl _) _).mono HL.out.be.size)))).mono ?_
     rintro e w6 ⟨rfl, b6⟩
     have HL6 := Lib.hid ((HL.out.below ((Below.refl _ _).alloc (Nat.le_refl _) _)).below b6)
     clear b6
     by_cases hn : numchk i.sn i.sd = 0
     case neg =>
      have tn : (numchk i.sn i.sd == 0) = false := beq_eq_false_iff_ne.2 hn
      have tn' : (numchk i.sn i.sd != 0) = true := by rw [bne, tn]; rfl
      have H := Lib.hid hn
      clear hn
      go_wp2_with fail
      go_ret
      exact ChkPost.bad H.out (fun h => H.out h.n3) HL6.out.be
     have HN := Lib.hid hn
     rw [hn]
     clear hn
     go_wp2_with fail
     go_roundw
     case rel => exact ⟨3, rfl, by omega, ⟨fun _ => HLN.out.1 (by omega), fun _ => HLN.out.2.1 (by omega), fun _ => HN.out⟩, HL6.out⟩
     case measure => simp [intOf]
    ·have r0 := Lib.cell_of_heap hL.rb 0
     have r1 := Lib.cell_of_heap hL.rb 1
     simp at r0 r1
     obtain ⟨d0, d1, d2, d3, d4, d5, d6, d7, d8, d9, d10, d11, d12, d13, d14⟩ := cells15 hL.ib
     clear hL
     go_wp2_with fail
     refine (HF.out _).mono ?_
     rintro e w7 ⟨n, rfl, hn, b7⟩
     have HN := Lib.hid hn
     clear hn
     go_wp2_with fail
     go_ret
     exact ⟨n, rfl, HN.out.trans ⟨fun p => ⟨Hh1.out, HKD.out, Hh2.out, Hh3.out, Hh5.out, HE.out, HLN.out.1 (by omega), HLN.out.2.1 (by omega), HLN.out.2.2 (by omega), p⟩, fun h => h.own⟩, HL.out.be.trans (b7.mono HL.out.be.size)⟩
theorem ChkPost.iff {w : World} {P Q : Prop} {e : Ending} {w' : World} (h : ChkPost w P e w') (hq : P ↔ Q) : ChkPost w Q e w' := by
 obtain ⟨n, h1, h2, h3⟩ := h
 exact ⟨n, h1, h2.trans hq, h3⟩
theorem ChkAll.plain {i : Inst} (h2 : i.kind ≠ 2) (h5 : i.kind ≠ 5) : ChkAll i false (plainOk i) ↔ i.ok :=
 ⟨fun h => ⟨h.id, h.kind, h.cur, h.places, h.issued, h.matures.imp (fun x => ⟨x.1, h2, h5⟩) (fun x => x), h.n1, h.n2, h.n3, fun _ _ => h.own, fun e => absurd e h2, fun e => absurd e h5⟩,
  fun h => ⟨h.id, h.kind, h.cur, h.places, h.issued, h.matures.imp (fun x => ⟨x.1, rfl⟩) (fun x => x), h.n1, h.n2, h.n3, h.plain h2 h5⟩⟩
theorem ChkAll.bond {i : Inst} (h2 : i.kind = 2) : ChkAll i true (bondOk i) ↔ i.ok :=
 ⟨fun h => ⟨h.id, h.kind, h.cur, h.places, h.issued, .inr (h.matures.resolve_left (fun x => Bool.noConfusion x.2)), h.n1, h.n2, h.n3, fun e => absurd h2 e, fun _ => h.own, fun e => by omega⟩,
  fun h => ⟨h.id, h.kind, h.cur, h.places, h.issued, .inr (h.matures.resolve_left (fun x => x.2.1 h2)), h.n1, h.n2, h.n3, h.bond h2⟩⟩
theorem ChkAll.fwd {i : Inst} (h5 : i.kind = 5) : ChkAll i true (fwdOk i) ↔ i.ok :=
 ⟨fun h => ⟨h.id, h.kind, h.cur, h.places, h.issued, .inr (h.matures.resolve_left (fun x => Bool.noConfusion x.2)), h.n1, h.n2, h.n3, fun _ e => absurd h5 e, fun e => by omega, fun _ => h.own⟩,
  fun h => ⟨h.id, h.kind, h.cur, h.places, h.issued, .inr (h.matures.resolve_left (fun x => x.2.2 h5)), h.n1, h.n2, h.n3, h.fwd h5⟩⟩
theorem iCheck_any (i : Inst) (hs : i.sized) (w : World) (ht : Tabs w) : Calls Tryz.prog 83 #[i.enc] w (ChkPost w i.ok) := by
 by_cases hk : 1 ≤ i.kind ∧ i.kind ≤ 5
 case neg => exact iCheck_kind i hs hk w ht
 rcases (show i.kind = 1 ∨ i.kind = 2 ∨ i.kind = 3 ∨ i.kind = 4 ∨ i.kind = 5 from by omega) with hi | hi | hi | hi | hi
 ·exact (iCheck_all i hs false 211 _ (enters_of Tryz.func211 (by kernel_rfl) rfl) (ix_rule 1 _ _ (fun _ => by kernel_rfl) i hi) (fun W => plain_any i hs W) hk w ht).mono (fun _ _ h => h.iff (ChkAll.plain (by omega) (by omega)))
 ·exact (iCheck_all i hs true 212 _ (enters_of Tryz.func212 (by kernel_rfl) rfl) (ix_rule 2 _ _ (fun _ => by kernel_rfl) i hi) (fun W => bond_any i hs W) hk w ht).mono (fun _ _ h => h.iff (ChkAll.bond hi))
 ·exact (iCheck_all i hs false 211 _ (enters_of Tryz.func211 (by kernel_rfl) rfl) (ix_rule 3 _ _ (fun _ => by kernel_rfl) i hi) (fun W => plain_any i hs W) hk w ht).mono (fun _ _ h => h.iff (ChkAll.plain (by omega) (by omega)))
 ·exact (iCheck_all i hs false 211 _ (enters_of Tryz.func211 (by kernel_rfl) rfl) (ix_rule 4 _ _ (fun _ => by kernel_rfl) i hi) (fun W => plain_any i hs W) hk w ht).mono (fun _ _ h => h.iff (ChkAll.plain (by omega) (by omega)))
 ·exact (iCheck_all i hs true 213 _ (enters_of Tryz.func213 (by kernel_rfl) rfl) (ix_rule 5 _ _ (fun _ => by kernel_rfl) i hi) (fun W => forward_any i hs W) hk w ht).mono (fun _ _ h => h.iff (ChkAll.fwd hi))
end Go.Proofs.YtcnmoobojdopgaaGreatDoor
