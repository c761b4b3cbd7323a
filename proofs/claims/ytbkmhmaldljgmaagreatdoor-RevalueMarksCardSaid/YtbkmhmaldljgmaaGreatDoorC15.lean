/-
  The walk of instrument.Check on what is valid. (Printed by gen_ins7.py.)
  instrument.Check on every valid instrument.
  The walk of lot.isId on the id of a lot.
  The walk of lot.Check on a valid lot. (Printed by gen_lot2.py.)
  The walk of trancheref10.Check: the words (numbers of up to 16 bytes). (Printed by gen_ref17.py.)
  The walks of trancheref19.number, Id (their yes: the id of a lot).
-/
import Derived.Test.YtbkmhmaldljgmaaGreatDoorC14
import Derived.Deep.DeepCutAuto
import Derived.Deep.RegionWith
import Derived.Test.YtbkmhmaldljgmaaGreatDoorC11
import Derived.Test.YtbkmhmaldljgmaaGreatDoorC08
import Derived.Test.YtbkmhmaldljgmaaGreatDoorC04
import Derived.BigQuiet
import Derived.Test.YtbkmhmaldljgmaaGreatDoorC12
import Derived.Deep.QuietTactic
import Derived.Deep.RegionHeld3
import Derived.Test.YtbkmhmaldljgmaaGreatDoorC13
set_option linter.unusedVariables false
set_option linter.unusedSimpArgs false
set_option maxHeartbeats 16000000
set_option maxRecDepth 100000
namespace Go.Proofs.YtbkmhmaldljgmaaGreatDoor
open Go.RowKit Tr Go.Shelf
def RuleBox (W : World) (B : Nat) (ends : Bool) (f : Nat) : Prop := W.heap[B]? = some (.cells #[.bool ends, .func (.func f) #[] #[]] 93 (0, 0))
def InstBox (W : World) (B : Nat) (i : Inst) : Prop := W.heap[B]? = some (.cells i.cells 27 (0, 0))
theorem InstBox.below {W W' : World} {B : Nat} {i : Inst} (h : InstBox W B i) (hb : Below W.heap.size W W') : InstBox W' B i := (hb.block B (Array.getElem?_eq_some_iff.1 h).1).trans h
theorem RuleBox.below {W W' : World} {B : Nat} {e : Bool} {f : Nat} (h : RuleBox W B e f) (hb : Below W.heap.size W W') : RuleBox W' B e f := (hb.block B (Array.getElem?_eq_some_iff.1 h).1).trans h
abbrev nsCells (i : Inst) : Array Value := #[.string i.fn, .string i.fd, .string i.cn, .string i.cd, .string i.sn, .string i.sd]
def NsBox (W : World) (B : Nat) (i : Inst) : Prop := W.heap[B]? = some (.cells (nsCells i) 25 (0, 0))
theorem NsBox.below {W W' : World} {B : Nat} {i : Inst} (h : NsBox W B i) (hb : Below W.heap.size W W') : NsBox W' B i := (hb.block B (Array.getElem?_eq_some_iff.1 h).1).trans h
structure LoopS (w : World) (S B : Nat) (ends : Bool) (f : Nat) (i : Inst) (W : World) : Prop where
 ns : NsBox W S i
 rb : RuleBox W B ends f
 ib : InstBox W w.heap.size i
 be : Below w.heap.size w W
theorem LoopS.below {w : World} {S B : Nat} {ends : Bool} {f : Nat} {i : Inst} {W W' : World} (h : LoopS w S B ends f i W) (hb : Below W.heap.size W W') : LoopS w S B ends f i W' :=
 ⟨h.ns.below hb, h.rb.below hb, h.ib.below hb, h.be.trans (hb.mono h.be.size)⟩
theorem iCheck_core (i : Inst) (hs : i.sized) (ends : Bool) (f : Nat) (hen : ∀ args w, (callFunc f args).run Tryz.prog w = .ok (.enter f args) w)
 (hix : ∀ w, Sem.run Tryz.prog (Instr.index 94 (Value.agg ruleCells) (.int .i64 i.kind)) w = .ok (.agg #[.bool ends, .func (.func f) #[] #[]]) w)
 (hf : ∀ W, Calls Tryz.prog f #[i.enc] W fun e w' => e = .returned (.int .i64 0) ∧ Below W.heap.size W w')
 (h1 : nameOk i.id = true) (h2 : 1 ≤ i.kind ∧ i.kind ≤ 5) (h3 : codeOk i.cur = true) (h4 : 0 ≤ i.places ∧ i.places ≤ 12) (h5 : okDay i.issued)
 (h6 : (i.matures = 0 ∧ ends = false) ∨ (i.matures ≠ 0 ∧ okDay i.matures ∧ i.issued < i.matures)) (n1 : numchk i.fn i.fd = 0) (n2 : numchk i.cn i.cd = 0) (n3 : numchk i.sn i.sd = 0)
 (w : World) (ht : Tabs w) :
 Calls Tryz.prog 24 #[i.enc] w fun e w' => e = .returned (.int .i64 0) ∧ Below w.heap.size w w' := by
 obtain ⟨W0, hW0, hB0, hz, hk⟩ := ibox i w
 obtain ⟨c0, c1, c2, c3, c4, c5, c6, c7, c8, c9, c10, c11, c12, c13, c14⟩ := cells15 hk
 have HB0 := Lib.hid hB0
 have HK0 : Hid (InstBox W0 w.heap.size i) := hk
 have HT := Lib.hid ht
 obtain ⟨z1, z2, z3, z4, z5, z6, z7, z8, z9⟩ := hs
 have HF := Lib.hid hf
 have N1 := Lib.hid (fun W hW => inumber_any i.fn i.fd (by omega) (by omega) W hW)
 have N2 := Lib.hid (fun W hW => inumber_any i.cn i.cd (by omega) (by omega) W hW)
 have N3 := Lib.hid (fun W hW => inumber_any i.sn i.sd (by omega) (by omega) W hW)
 rw [n1] at N1
 rw [n2] at N2
 rw [n3] at N3
 have S1 := Lib.hid (fun W => Name_any i.id (by omega) W)
 have S2 := Lib.hid (fun W => isCode_any i.cur (by omega) W)
 have S3 := Lib.hid (fun W => ivalid_any i.issued W)
 have S4 := Lib.hid (fun W => ivalid_any i.matures W)
 rw [h1] at S1
 rw [h3] at S2
 rw [decide_eq_true h5] at S3
 have q1 : decide (i.kind < 1) = false := decide_eq_false (by omega)
 have q2 : decide (5 < i.kind) = false := decide_eq_false (by omega)
 have q3 : decide (i.places < 0) = false := decide_eq_false (by omega)
 have q4 : decide (12 < i.places) = false := decide_eq_false (by omega)
 have H6 := Lib.hid h6
 clear ht hf n1 n2 n3 h1 h2 h3 h4 h5 h6 hk hB0 hz
 unfold Inst.enc Inst.cells at *
 go_enter Tryz.func24, Tryz.ntmps24
 go_wp2_with fail
 refine (S1.out W0).mono ?_
 rintro e w1 ⟨rfl, b1⟩
 have d0 := keepc c0 b1
 have d1 := keepc c1 b1
 have d2 := keepc c2 b1
 have d3 := keepc c3 b1
 have d4 := keepc c4 b1
 have d5 := keepc c5 b1
 have d6 := keepc c6 b1
 have d7 := keepc c7 b1
 have d8 := keepc c8 b1
 have d9 := keepc c9 b1
 have d10 := keepc c10 b1
 have d11 := keepc c11 b1
 have d12 := keepc c12 b1
 have d13 := keepc c13 b1
 have d14 := keepc c14 b1
 have HB1 := Lib.hid (HB0.out.trans (b1.mono HB0.out.size))
 have HK1 := Lib.hid (HK0.out.below b1)
 clear b1 S1
 clear c0 c1 c2 c3 c4 c5 c6 c7 c8 c9 c10 c11 c12 c13 c14
 go_wp2_with fail
 refine (S2.out w1).mono ?_
 rintro e w2 ⟨rfl, b2⟩
 have c0 := keepc d0 b2
 have c1 := keepc d1 b2
 have c2 := keepc d2 b2
 have c3 := keepc d3 b2
 have c4 := keepc d4 b2
 have c5 := keepc d5 b2
 have c6 := keepc d6 b2
 have c7 := keepc d7 b2
 have c8 := keepc d8 b2
 have c9 := keepc d9 b2
 have c10 := keepc d10 b2
 have c11 := keepc d11 b2
 have c12 := keepc d12 b2
 have c13 := keepc d13 b2
 have c14 := keepc d14 b2
 have HB2 := Lib.hid (HB1.out.trans (b2.mono HB1.out.size))
 have HK2 := Lib.hid (HK1.out.below b2)
 clear b2 S2
 clear d0 d1 d2 d3 d4 d5 d6 d7 d8 d9 d10 d11 d12 d13 d14
 go_wp2_with fail
 refine (S3.out w2).mono ?_
 rintro e w3 ⟨rfl, rfl⟩
 clear S3
 go_wp2_with fail
 go_cut [3] (fun v3 wx => ∃ (B : Nat) (wr : World), v3 = .pointer (some ⟨B, 0, none⟩) ∧ RuleBox wr B ends f ∧ InstBox wr w.heap.size i ∧ Below w.heap.size w wr ∧ wr = wx)
 case first =>
  have hl3 : w.heap.size < w3.heap.size := cell_lt c1
  have ka : (w3.drew.alloc (.cells #[.bool false, .nilFunc] 93)).cell? ⟨w.heap.size, 1, none⟩ = some (.int .i64 i.kind) := by
   rw [Lib.cell_of_heap (HK2.out.below ((Below.refl _ w3).drew.alloc (Nat.le_refl _) _))]; rfl
  go_region_with (go_at_call 46; refine (rules_any _).mono ?_; rintro e w4 ⟨rfl, b4⟩; have kk : InstBox w4 w.heap.size i := (by first | exact (show InstBox w3.drew _ _ from HK2.out).below b4 | exact (HK2.out.below ((Below.refl _ w3).drew.alloc (Nat.le_refl _) _)).below b4); have k1 : w4.cell? ⟨w.heap.size, 1, none⟩ = some (.int .i64 i.kind) := (by rw [Lib.cell_of_heap kk]; rfl); have k2 : (w4.alloc (.cells #[.bool false, .nilFunc] 93)).cell? ⟨w.heap.size, 1, none⟩ = some (.int .i64 i.kind) := (by rw [Lib.cell_of_heap (kk.below ((Below.refl _ w4).alloc (Nat.le_refl _) _))]; rfl); have nb : (w4.alloc (.cells #[.bool false, .nilFunc] 93)).heap[w4.heap.size]? = some (.cells #[.bool false, .nilFunc] 93 (0, 0)) := heap_alloc_new w4 _; have n0 := Lib.cell_of_heap nb 0; have n1 := Lib.cell_of_heap nb 1; have n2 := Lib.frozen_of_heap nb 0; have n3 := Lib.frozen_of_heap nb 1; simp at n0 n1 n2 n3; have NB := Lib.hid nb; clear nb; try (have rb : w4.heap[w3.heap.size]? = some (.cells #[.bool false, .nilFunc] 93 (0, 0)) := (b4.block w3.heap.size (by simp)).trans (heap_alloc_new w3.drew _); have r0 := Lib.cell_of_heap rb 0; have r1 := Lib.cell_of_heap rb 1; have r2 := Lib.frozen_of_heap rb 0; have r3 := Lib.frozen_of_heap rb 1; simp at r0 r1 r2 r3; have RB := Lib.hid rb; clear rb); have KK := Lib.hid kk; have B4 := Lib.hid b4; clear kk b4)
  all_goals (first | go_wp2_with fail | skip)
  all_goals go_meet
  all_goals first
   | (refine ⟨w4.heap.size, _, rfl, heap_alloc_new w4 _, (show InstBox w4 w.heap.size i from by first | exact KK.out | assumption).below ((Below.refl _ w4).alloc (Nat.le_refl _) _), ?_, rfl⟩
      have q := HB2.out.drew.trans ((show Below w3.drew.heap.size w3.drew w4 from by first | exact B4.out | assumption).mono HB2.out.size)
      exact q.alloc q.size _)
   | (refine ⟨w3.heap.size, _, rfl, set2 RB.out _ _, (Below.heap_setCell _ _ _ _ (by simp; omega)).trans ((Below.heap_setCell _ _ _ _ (by simp; omega)).trans KK.out), ?_, rfl⟩
      have q0 := HB2.out.drew.alloc HB2.out.size (Obj.cells #[.bool false, .nilFunc] 93)
      have q := q0.trans (B4.out.mono (by have := HB2.out.size; simp; omega))
      exact (q.setCell (p := ⟨w3.heap.size, 0, none⟩) (by simp; have := HB2.out.size; omega) _).setCell (p := ⟨w3.heap.size, 1, none⟩) (by simp; have := HB2.out.size; omega) _)
 case rest =>
  obtain ⟨B, wr, rfl, hRB, hIB, hBB, rfl⟩ := hcut
  obtain ⟨d0, d1, d2, d3, d4, d5, d6, d7, d8, d9, d10, d11, d12, d13, d14⟩ := cells15 hIB
  have r0 := Lib.cell_of_heap hRB 0
  have r1 := Lib.cell_of_heap hRB 1
  simp at r0 r1
  have HRB := Lib.hid hRB
  have HIB := Lib.hid hIB
  have HBB := Lib.hid hBB
  clear hRB hIB hBB
  clear c0 c1 c2 c3 c4 c5 c6 c7 c8 c9 c10 c11 c12 c13 c14
  go_upto_region 12 with fail
  go_cut [68] (fun v wx => v = .bool false ∧ wr = wx)
  case first =>
   rcases H6.out with ⟨hm, he⟩ | ⟨hm, hm1, hm2⟩
   ·subst he
    rw [hm] at d5
    clear hm
    go_wp2_with fail
    go_meet
    exact ⟨rfl, rfl⟩
   ·have t1 : (i.matures == 0) = false := beq_eq_false_iff_ne.2 hm
    have t2 : decide (i.matures ≤ i.issued) = false := decide_eq_false (by omega)
    go_wp2_with fail
    refine (S4.out _).mono ?_
    rintro e w5 ⟨rfl, rfl⟩
    rw [decide_eq_true hm1]
    go_wp2_with fail
    go_meet
    exact ⟨rfl, rfl⟩
  case rest =>
   obtain ⟨rfl, rfl⟩ := hcut
   obtain ⟨W5, hW5⟩ : ∃ W5, wr.alloc (.cells (nsCells i) 25) = W5 := ⟨_, rfl⟩
   have kS : NsBox W5 wr.heap.size i := by rw [← hW5]; exact heap_alloc_new wr _
   have b5 : Below wr.heap.size wr W5 := by rw [← hW5]; exact (Below.refl _ wr).alloc (Nat.le_refl _) _
   have hsz : w.heap.size ≤ wr.heap.size := HBB.out.size
   have HS5 : Hid (LoopS w wr.heap.size B ends f i W5) := ⟨kS, HRB.out.below b5, HIB.out.below b5, HBB.out.trans (b5.mono hsz)⟩
   clear kS b5 S4 H6 HRB HIB HBB
   clear r0 r1
   clear d0 d1 d2 d3 d4 d5 d10 d11 d12
   unfold nsCells at hW5
   go_wp2_with fail
   go_loopw [77] (fun v wx => ∃ k : Nat, v = .int .i64 (k : Int) ∧ k ≤ 3 ∧ LoopS w wr.heap.size B ends f i wx) (fun v _ => 3 - (intOf v).toNat)
   case atStart => exact ⟨0, rfl, by omega, HS5.out⟩
   case round =>
    obtain ⟨k, rfl, hk3, hL⟩ := hrel
    clear HS5 hW5
    have n0 := Lib.cell_of_heap hL.ns 0
    have n1 := Lib.cell_of_heap hL.ns 1
    have n2 := Lib.cell_of_heap hL.ns 2
    have n3 := Lib.cell_of_heap hL.ns 3
    have n4 := Lib.cell_of_heap hL.ns 4
    have n5 := Lib.cell_of_heap hL.ns 5
    simp at n0 n1 n2 n3 n4 n5
    have HL := Lib.hid hL
    rcases (show k = 0 ∨ k = 1 ∨ k = 2 ∨ k = 3 from by omega) with rfl | rfl | rfl | rfl
    ·clear hL
     go_wp2_with fail
     refine (N1.out _ (HT.out.below (HL.out.be.trans (((Below.refl _ _).alloc (Nat.le_refl _) _).mono HL.out.be.size)))).mono ?_
     rintro e w6 ⟨rfl, b6⟩
     have HL6 := Lib.hid ((HL.out.below ((Below.refl _ _).alloc (Nat.le_refl _) _)).below b6)
     clear b6
     go_wp2_with fail
     go_roundw
     case rel => exact ⟨1, rfl, by omega, HL6.out⟩
     case measure => simp [intOf]
    ·clear hL
     go_wp2_with fail
     refine (N2.out _ (HT.out.below (HL.out.be.trans (((Below.refl _ _).alloc (Nat.le_refl _) _).mono HL.out.be.size)))).mono ?_
     rintro e w6 ⟨rfl, b6⟩
     have HL6 := Lib.hid ((HL.out.below ((Below.refl _ _).alloc (Nat.le_refl _) _)).below b6)
     clear b6
     go_wp2_with fail
     go_roundw
     case rel => exact ⟨2, rfl, by omega, HL6.out⟩
     case measure => simp [intOf]
    ·clear hL
     go_wp2_with fail
     refine (N3.out _ (HT.out.below (HL.out.be.trans (((Below.refl _ _).alloc (Nat.le_refl _) _).mono HL.out.be.size)))).mono ?_
     rintro e w6 ⟨rfl, b6⟩
     have HL6 := Lib.hid ((HL.out.below ((Below.refl _ _).alloc (Nat.le_refl _) _)).below b6)
     clear b6
     go_wp2_with fail
     go_roundw
     case rel => exact ⟨3, rfl, by omega, HL6.out⟩
     case measure => simp [intOf]
    ·have r0 := Lib.cell_of_heap hL.rb 0
     have r1 := Lib.cell_of_heap hL.rb 1
     simp at r0 r1
     obtain ⟨d0, d1, d2, d3, d4, d5, d6, d7, d8, d9, d10, d11, d12, d13, d14⟩ := cells15 hL.ib
     clear hL
     go_wp2_with fail
     refine (HF.out _).mono ?_
     rintro e w7 ⟨rfl, b7⟩
     go_wp2_with fail
     go_ret
     exact ⟨rfl, HL.out.be.trans (b7.mono HL.out.be.size)⟩
structure Inst.ok (i : Inst) : Prop where
 id : nameOk i.id = true
 kind : 1 ≤ i.kind ∧ i.kind ≤ 5
 cur : codeOk i.cur = true
 places : 0 ≤ i.places ∧ i.places ≤ 12
 issued : okDay i.issued
 matures : (i.matures = 0 ∧ i.kind ≠ 2 ∧ i.kind ≠ 5) ∨ (i.matures ≠ 0 ∧ okDay i.matures ∧ i.issued < i.matures)
 n1 : numchk i.fn i.fd = 0
 n2 : numchk i.cn i.cd = 0
 n3 : numchk i.sn i.sd = 0
 plain : i.kind ≠ 2 → i.kind ≠ 5 → plainOk i
 bond : i.kind = 2 → bondOk i
 fwd : i.kind = 5 → fwdOk i
theorem ix_rule (k : Int) (ends : Bool) (f : Nat) (h : ∀ w, Sem.run Tryz.prog (Instr.index 94 (Value.agg ruleCells) (.int .i64 k)) w = .ok (.agg #[.bool ends, .func (.func f) #[] #[]]) w) (i : Inst) (hi : i.kind = k) :
 ∀ w, Sem.run Tryz.prog (Instr.index 94 (Value.agg ruleCells) (.int .i64 i.kind)) w = .ok (.agg #[.bool ends, .func (.func f) #[] #[]]) w := by
 subst hi; exact h
theorem iCheck_ok (i : Inst) (hs : i.sized) (h : i.ok) (w : World) (ht : Tabs w) :
 Calls Tryz.prog 24 #[i.enc] w fun e w' => e = .returned (.int .i64 0) ∧ Below w.heap.size w w' := by
 have hk := h.kind
 rcases (show i.kind = 1 ∨ i.kind = 2 ∨ i.kind = 3 ∨ i.kind = 4 ∨ i.kind = 5 from by omega) with hi | hi | hi | hi | hi
 ·exact iCheck_core i hs false 76 (enters_of Tryz.func76 (by kernel_rfl) rfl) (ix_rule 1 _ _ (fun _ => by kernel_rfl) i hi) (fun W => plain_ok i hs (h.plain (by omega) (by omega)) W)
   h.id hk h.cur h.places h.issued (h.matures.imp (fun x => ⟨x.1, rfl⟩) (fun x => x)) h.n1 h.n2 h.n3 w ht
 ·exact iCheck_core i hs true 77 (enters_of Tryz.func77 (by kernel_rfl) rfl) (ix_rule 2 _ _ (fun _ => by kernel_rfl) i hi) (fun W => bond_ok i hs (h.bond hi) W)
   h.id hk h.cur h.places h.issued (.inr (h.matures.resolve_left (fun x => x.2.1 hi))) h.n1 h.n2 h.n3 w ht
 ·exact iCheck_core i hs false 76 (enters_of Tryz.func76 (by kernel_rfl) rfl) (ix_rule 3 _ _ (fun _ => by kernel_rfl) i hi) (fun W => plain_ok i hs (h.plain (by omega) (by omega)) W)
   h.id hk h.cur h.places h.issued (h.matures.imp (fun x => ⟨x.1, rfl⟩) (fun x => x)) h.n1 h.n2 h.n3 w ht
 ·exact iCheck_core i hs false 76 (enters_of Tryz.func76 (by kernel_rfl) rfl) (ix_rule 4 _ _ (fun _ => by kernel_rfl) i hi) (fun W => plain_ok i hs (h.plain (by omega) (by omega)) W)
   h.id hk h.cur h.places h.issued (h.matures.imp (fun x => ⟨x.1, rfl⟩) (fun x => x)) h.n1 h.n2 h.n3 w ht
 ·exact iCheck_core i hs true 78 (enters_of Tryz.func78 (by kernel_rfl) rfl) (ix_rule 5 _ _ (fun _ => by kernel_rfl) i hi) (fun W => forward_ok i hs (h.fwd hi) W)
   h.id hk h.cur h.places h.issued (.inr (h.matures.resolve_left (fun x => x.2.2 hi))) h.n1 h.n2 h.n3 w ht
def numB (t : List UInt8) : Bool := decide (t.length ≤ 4) && (match Lib.atoi t with | some v => decide (1 ≤ v) && decide (v ≤ 9999) && (Lib.itoa v == t) | none => false)
def idB (s : ByteArray) : Bool := numB (Lib.cut s.data.toList [47]).2.1 && nameOk (bs (Lib.cut s.data.toList [47]).1)
theorem numB_spec {t : List UInt8} (h : numB t = true) : t.length ≤ 4 ∧ ∃ v : Int, Lib.atoi t = some v ∧ 1 ≤ v ∧ v ≤ 9999 ∧ Lib.itoa v = t := by
 unfold numB at h
 rw [Bool.and_eq_true] at h
 refine ⟨by simpa using h.1, ?_⟩
 have h2 := h.2
 split at h2
 ·rename_i v hv
  simp only [Bool.and_eq_true, decide_eq_true_eq, beq_iff_eq] at h2
  exact ⟨v, hv, h2.1.1, h2.1.2, h2.2⟩
 ·cases h2
theorem isId_ok (s : ByteArray) (hs : s.size ≤ 1000) (h : idB s = true) (w : World) (ht : Tabs w) :
 Calls Tryz.prog 210 #[.string s] w fun e w' => e = .returned (.bool true) ∧ Below w.heap.size w w' := by
 obtain ⟨m, hm⟩ := ht.maxLen
 have HC := Lib.hid (Tryz.strings_Cut s ⟨#[47]⟩ m w (by omega) hm)
 unfold idB at h
 rw [Bool.and_eq_true] at h
 obtain ⟨hn, hnm⟩ := h
 rw [show (⟨#[47]⟩ : ByteArray).data.toList = [47] from rfl] at HC
 generalize Lib.cut s.data.toList [47] = c at HC hn hnm
 obtain ⟨c1, c2, c3⟩ := c
 dsimp only at HC hn hnm
 obtain ⟨hl, v, hv, v1, v2, hit⟩ := numB_spec hn
 have hz : (bs c2).size = c2.length := bs_size _
 have HA := Lib.hid (fun W => Tryz.strconv_Atoi (bs c2) v (by omega) hv W)
 have HI := Lib.hid (fun W hW => Itoa_any v (by omega) (by omega) W hW)
 rw [hit] at HI
 have hn1 : (bs c1).size ≤ 1000000 := by
  unfold nameOk at hnm
  simp only [Bool.and_eq_true, decide_eq_true_eq] at hnm
  omega
 have HN := Lib.hid (fun W => Name_any (bs c1) hn1 W)
 rw [hnm] at HN
 rw [show (ByteArray.mk c1.toArray) = bs c1 from rfl, show (ByteArray.mk c2.toArray) = bs c2 from rfl] at HC
 have HT := Lib.hid ht
 clear hm hn hnm hit hv hz hn1 ht
 go_enter Tryz.func210, Tryz.ntmps210
 go_wp2_with fail
 refine HC.out.mono ?_
 rintro e w1 ⟨rfl, k, hw1⟩
 have B1 : Below w.heap.size w w1 := by rw [hw1]; exact below_drewN (Below.refl _ _) k
 clear hw1
 go_wp2_with fail
 refine (HA.out _).mono ?_
 rintro e w2 ⟨rfl, t, hw2⟩
 have B2 : Below w.heap.size w w2 := by rw [hw2]; exact B1.trans ((Lib.bytesWorld_below _ _ _).mono B1.size)
 clear hw2 B1
 go_wp2_with fail
 refine (HI.out _ (HT.out.below B2)).mono ?_
 rintro e w3 ⟨rfl, b3⟩
 have B3 := B2.trans (b3.mono B2.size)
 clear b3 B2
 go_wp2_with fail
 refine (HN.out _).mono ?_
 rintro e w4 ⟨rfl, b4⟩
 have B4 := B3.trans (b4.mono B3.size)
 clear b4 B3
 go_wp2_with fail
 go_ret
 exact ⟨rfl, B4⟩
theorem lvalid_any (d : Int) (w : World) :
 Calls Tryz.prog 211 #[.int .i64 d] w fun e w' => e = .returned (.bool (decide (okDay d))) ∧ w' = w := by
 go_enter Tryz.func211, Tryz.ntmps211
 go_wp2_with fail
 all_goals (go_ret; refine ⟨?_, rfl⟩; first | (rw [decide_eq_true (p := okDay d) (by unfold okDay; omega)]; rfl) | (rw [decide_eq_false (p := okDay d) (by unfold okDay; omega)]; rfl) | (simp [okDay, *]; done))
structure Lot where
 id : ByteArray
 inst : ByteArray
 acq : Int
 opn : Int
 qty : ByteArray
 cost : ByteArray
 used : ByteArray
abbrev Lot.cells (l : Lot) : Array Value := #[.string l.id, .string l.inst, .int .i64 l.acq, .int .i64 l.opn, .string l.qty, .string l.cost, .string l.used]
abbrev Lot.enc (l : Lot) : Value := .agg l.cells
def Lot.sized (l : Lot) : Prop := l.id.size ≤ 1000 ∧ l.inst.size ≤ 1000 ∧ l.qty.size ≤ 1000 ∧ l.cost.size ≤ 1000 ∧ l.used.size ≤ 1000
def LotBox (W : World) (B : Nat) (l : Lot) : Prop := W.heap[B]? = some (.cells l.cells 55 (0, 0))
theorem LotBox.below {W W' : World} {B : Nat} {l : Lot} (h : LotBox W B l) (hb : Below W.heap.size W W') : LotBox W' B l := (hb.block B (Array.getElem?_eq_some_iff.1 h).1).trans h
theorem LotBox.lt {W : World} {B : Nat} {l : Lot} (h : LotBox W B l) : B < W.heap.size := (Array.getElem?_eq_some_iff.1 h).1
structure Lot.ok (l : Lot) : Prop where
 id : idB l.id = true
 inst : nameOk l.inst = true
 acq : okDay l.acq
 opn : okDay l.opn
 ord : l.acq ≤ l.opn
 cq : Can l.qty
 cc : Can l.cost
 cu : Can l.used
 pq : 0 < vl l.qty
 pc : 0 ≤ vl l.cost
 us : l.used = ⟨#[]⟩ ∨ l.used = l.qty
def u3Cells (l : Lot) : Array Value := #[.string l.qty, .string l.cost, .string l.used]
structure LLoop (w : World) (S : Nat) (l : Lot) (W : World) : Prop where
 ns : W.heap[S]? = some (.cells (u3Cells l) 23 (0, 0))
 ib : LotBox W w.heap.size l
 be : Below w.heap.size w W
theorem LLoop.below {w : World} {S : Nat} {l : Lot} {W W' : World} (h : LLoop w S l W) (hb : Below W.heap.size W W') : LLoop w S l W' :=
 ⟨(hb.block S (Array.getElem?_eq_some_iff.1 h.ns).1).trans h.ns, h.ib.below hb, h.be.trans (hb.mono h.be.size)⟩
theorem lCheck_ok (l : Lot) (hs : l.sized) (h : l.ok) (w : World) (ht : Tabs w) :
 Calls Tryz.prog 157 #[l.enc] w fun e w' => e = .returned (.int .i64 0) ∧ Below w.heap.size w w' := by
 obtain ⟨W0, hW0⟩ : ∃ W0, w.alloc (.cells l.cells 55) = W0 := ⟨_, rfl⟩
 have hk : LotBox W0 w.heap.size l := by rw [← hW0]; exact heap_alloc_new w _
 have HB0 : Hid (Below w.heap.size w W0) := by rw [← hW0]; exact (Below.refl _ w).alloc (Nat.le_refl _) _
 obtain ⟨c0, c1, c2, c3, c4, c5, c6⟩ := cells7 hk
 have HK0 := Lib.hid hk
 have HT := Lib.hid ht
 obtain ⟨z1, z2, z3, z4, z5⟩ := hs
 have S1 := Lib.hid (fun W (hW : Tabs W) => isId_ok l.id (by omega) h.id W hW)
 have S2 := Lib.hid (fun W => Name_any l.inst (by omega) W)
 have S3 := Lib.hid (fun W => lvalid_any l.acq W)
 have S4 := Lib.hid (fun W => lvalid_any l.opn W)
 rw [h.inst] at S2
 rw [decide_eq_true h.acq] at S3
 rw [decide_eq_true h.opn] at S4
 have N1 := Lib.hid (fun W => Check_yes l.qty W (by omega) h.cq)
 have N2 := Lib.hid (fun W => Check_yes l.cost W (by omega) h.cc)
 have N3 := Lib.hid (fun W => Check_yes l.used W (by omega) h.cu)
 have M1 := Lib.hid (fun W => Compare_any l.qty ⟨#[]⟩ W (by omega) (by show 0 ≤ _; omega))
 have M2 := Lib.hid (fun W => Compare_any l.cost ⟨#[]⟩ W (by omega) (by show 0 ≤ _; omega))
 rw [show vl (⟨#[]⟩ : ByteArray) = 0 from by rw [zero_eq, vl_I]] at M1 M2
 have q1 : decide (l.opn < l.acq) = false := decide_eq_false (by have := h.ord; omega)
 have q2 : decide (cmpI (vl l.qty) 0 ≤ 0) = false := decide_eq_false (by rw [cmpI_le]; have := h.pq; omega)
 have q3 : decide (cmpI (vl l.cost) 0 < 0) = false := decide_eq_false (by rw [cmpI_lt]; have := h.pc; omega)
 have HU := Lib.hid h.us
 clear ht h hk
 unfold Lot.enc Lot.cells at *
 go_enter Tryz.func157, Tryz.ntmps157
 go_wp2_with fail
 refine (S1.out W0 (HT.out.below HB0.out)).mono ?_
 rintro e w1 ⟨rfl, b1⟩
 have HB1 := Lib.hid (HB0.out.trans (b1.mono HB0.out.size))
 have hk1 := HK0.out.below b1
 clear c0 c1 c2 c3 c4 c5 c6
 obtain ⟨c0, c1, c2, c3, c4, c5, c6⟩ := cells7 hk1
 have HK1 := Lib.hid hk1
 clear b1 S1 hk1 HK0 HB0
 go_wp2_with fail
 refine (S2.out w1).mono ?_
 rintro e w2 ⟨rfl, b2⟩
 have HB2 := Lib.hid (HB1.out.trans (b2.mono HB1.out.size))
 have hk2 := HK1.out.below b2
 clear c0 c1 c2 c3 c4 c5 c6
 obtain ⟨c0, c1, c2, c3, c4, c5, c6⟩ := cells7 hk2
 have HK2 := Lib.hid hk2
 clear b2 S2 hk2 HK1 HB1
 go_wp2_with fail
 refine (S3.out w2).mono ?_
 rintro e w3 ⟨rfl, rfl⟩
 clear S3
 go_wp2_with fail
 refine (S4.out _).mono ?_
 rintro e w4 ⟨rfl, rfl⟩
 clear S4
 obtain ⟨W5, hW5⟩ : ∃ W5, w4.alloc (.cells (u3Cells l) 23) = W5 := ⟨_, rfl⟩
 have b5 : Below w4.heap.size w4 W5 := by rw [← hW5]; exact (Below.refl _ w4).alloc (Nat.le_refl _) _
 have HS5 : Hid (LLoop w w4.heap.size l W5) := ⟨by rw [← hW5]; exact heap_alloc_new w4 _, HK2.out.below b5, HB2.out.trans (b5.mono HB2.out.size)⟩
 clear b5 HK2 HB2
 unfold u3Cells at hW5
 go_wp2_with fail
 go_loopw [38] (fun v wx => ∃ k : Nat, v = .int .i64 (k : Int) ∧ k ≤ 3 ∧ LLoop w w4.heap.size l wx) (fun v _ => 3 - (intOf v).toNat)
 case atStart => exact ⟨0, rfl, by omega, HS5.out⟩
 case round =>
  obtain ⟨k, rfl, hk, hL⟩ := hrel
  clear HS5 hW5
  clear c0 c1 c2 c3 c4 c5 c6
  have n0 := Lib.cell_of_heap hL.ns 0
  have n1 := Lib.cell_of_heap hL.ns 1
  have n2 := Lib.cell_of_heap hL.ns 2
  simp [u3Cells] at n0 n1 n2
  obtain ⟨c0, c1, c2, c3, c4, c5, c6⟩ := cells7 hL.ib
  have HL := Lib.hid hL
  clear hL
  rcases (show k = 0 ∨ k = 1 ∨ k = 2 ∨ k = 3 from by omega) with rfl | rfl | rfl | rfl
  ·go_wp2_with fail
   refine (N1.out _).mono ?_
   rintro e w6 ⟨rfl, b6⟩
   have HL6 := Lib.hid (HL.out.below b6)
   clear b6
   go_wp2_with fail
   go_roundw
   case rel => exact ⟨1, rfl, by omega, HL6.out⟩
   case measure => simp [intOf]
  ·go_wp2_with fail
   refine (N2.out _).mono ?_
   rintro e w6 ⟨rfl, b6⟩
   have HL6 := Lib.hid (HL.out.below b6)
   clear b6
   go_wp2_with fail
   go_roundw
   case rel => exact ⟨2, rfl, by omega, HL6.out⟩
   case measure => simp [intOf]
  ·go_wp2_with fail
   refine (N3.out _).mono ?_
   rintro e w6 ⟨rfl, b6⟩
   have HL6 := Lib.hid (HL.out.below b6)
   clear b6
   go_wp2_with fail
   go_roundw
   case rel => exact ⟨3, rfl, by omega, HL6.out⟩
   case measure => simp [intOf]
  ·go_wp2_with fail
   refine (M1.out _).mono ?_
   rintro e w6 ⟨rfl, b6⟩
   have hL6 := HL.out.below b6
   clear c0 c1 c2 c3 c4 c5 c6
   clear n0 n1 n2
   obtain ⟨c0, c1, c2, c3, c4, c5, c6⟩ := cells7 hL6.ib
   have HL6 := Lib.hid hL6
   clear b6 hL6 HL
   go_wp2_with fail
   refine (M2.out _).mono ?_
   rintro e w7 ⟨rfl, b7⟩
   have hL7 := HL6.out.below b7
   clear c0 c1 c2 c3 c4 c5 c6
   obtain ⟨c0, c1, c2, c3, c4, c5, c6⟩ := cells7 hL7.ib
   have HL7 := Lib.hid hL7
   clear b7 hL7 HL6
   rcases HU.out with hu | hu
   ·rw [hu] at c6
    go_wp2_with fail
    go_ret
    exact ⟨rfl, HL7.out.be⟩
   ·rw [hu] at c6
    by_cases he : l.qty = ⟨#[]⟩
    ·rw [he] at c4 c6
     go_wp2_with fail
     go_ret
     exact ⟨rfl, HL7.out.be⟩
    ·have hn := str_empty l.qty
     rw [decide_eq_false he] at hn
     have hn2 : (l.qty.toList == l.qty.toList) = true := by simp
     go_wp2_with fail
     go_ret
     exact ⟨rfl, HL7.out.be⟩
def ChkPost (w : World) (P : Prop) (e : Ending) (w' : World) : Prop := ∃ n : Int, e = .returned (.int .i64 n) ∧ (n = 0 ↔ P) ∧ Below w.heap.size w w'
theorem ChkPost.bad {w w' : World} {P : Prop} {n : Int} (hn : n ≠ 0) (hP : ¬ P) (hb : Below w.heap.size w w') : ChkPost w P (.returned (.int .i64 n)) w' := ⟨n, rfl, ⟨fun h => absurd h hn, fun h => absurd h hP⟩, hb⟩
theorem ChkPost.good {w w' : World} {P : Prop} (hP : P) (hb : Below w.heap.size w w') : ChkPost w P (.returned (.int .i64 0)) w' := ⟨0, rfl, ⟨fun _ => hP, fun _ => rfl⟩, hb⟩
theorem decFrom_digits : ∀ (l : List UInt8) (acc : Nat), l.all isDigit = true → Lib.decFrom acc l = some (l.foldl (fun n c => 10 * n + (c.toNat - 48)) acc)
 | [], acc, _ => rfl
 | b :: r, acc, h => by
   rw [List.all_cons, Bool.and_eq_true] at h
   have hb := (isDigit_iff b).1 h.1
   unfold Lib.decFrom Lib.digitVal
   rw [if_pos hb]
   show Lib.decFrom (acc * 10 + (b.toNat - 48)) r = _
   rw [decFrom_digits r _ h.2, List.foldl_cons, Nat.mul_comm]
theorem numB_of {t : List UInt8} (h1 : 1 ≤ t.length) (h4 : t.length ≤ 4) (hd : t.all isDigit = true) (h0 : t.getD 0 0 ≠ 48) : numB t = true := by
 obtain ⟨b, r, rfl⟩ : ∃ b r, t = b :: r := by cases t with | nil => simp at h1 | cons b r => exact ⟨b, r, rfl⟩
 have hb48 : b ≠ 48 := by simpa using h0
 have hbd : isDigit b = true := by rw [List.all_cons, Bool.and_eq_true] at hd; exact hd.1
 have hb := (isDigit_iff b).1 hbd
 have hs : strip (b :: r) = b :: r := by unfold strip; rw [List.dropWhile_cons, if_neg (by simpa using hb48)]
 obtain ⟨g1, g2⟩ := digits_dval (b :: r) hd
 rw [hs] at g1 g2
 have hpos : 0 < dval (b :: r) := Nat.pos_of_ne_zero (fun e => by have := g2.1 e; cases this)
 have hlt := dval_lt (b :: r) hd
 have hlt4 : dval (b :: r) < 10 ^ 4 := Nat.lt_of_lt_of_le hlt (pow_mono h4)
 have ha : Lib.atoi (b :: r) = some ((dval (b :: r) : Nat) : Int) := by
  have n45 : (b == 45) = false := by rw [beq_eq_false_iff_ne]; rintro rfl; simp at hb
  have n43 : (b == 43) = false := by rw [beq_eq_false_iff_ne]; rintro rfl; simp at hb
  unfold Lib.atoi
  dsimp only
  rw [n45, n43]
  show Option.map (fun (m : Nat) => (m : Int)) (Lib.decNat (b :: r)) = _
  unfold Lib.decNat
  rw [if_neg (by simp), decFrom_digits _ _ hd]
  rfl
 have hi : Lib.itoa ((dval (b :: r) : Nat) : Int) = b :: r := by
  unfold Lib.itoa
  rw [if_neg (by omega), Int.toNat_natCast]
  have := dec_pos hpos
  unfold dec at this
  rw [this, g1]
 unfold numB
 rw [ha]
 dsimp only
 rw [hi]
 simp only [Bool.and_eq_true, decide_eq_true_eq, beq_self_eq_true, and_true]
 exact ⟨h4, by omega, by omega⟩
end Go.Proofs.YtbkmhmaldljgmaaGreatDoor
