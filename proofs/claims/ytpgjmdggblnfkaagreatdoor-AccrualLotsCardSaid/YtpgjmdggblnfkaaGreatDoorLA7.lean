/-
  The walk of accrual.Effect where it refuses. (Printed by gen_acc13.py.)
-/
import Derived.Test.YtpgjmdggblnfkaaGreatDoorLA8
set_option linter.unusedVariables false
set_option linter.unusedSimpArgs false
set_option maxHeartbeats 16000000
set_option maxRecDepth 100000
namespace Go.Proofs.YtpgjmdggblnfkaaGreatDoor
open Go.RowKit Tr Go.Shelf
theorem Effect_e1 (kind : Int) (d : Int) (i : Inst) (ch : ByteArray) (hsm : i.small) (hcz : ch.size ≤ 1000) (hok : ¬ i.ok) (w : World) (ht : Tabs w) :
 Calls Tryz.prog 24 #[.int .i64 kind, .int .i64 d, i.enc, .string ch] w fun e w' => e = .returned (.tuple #[.agg effZero, .bool false, .int .i64 1]) ∧ Below w.heap.size w w' := by
 obtain ⟨W0, hW0', hB0, hz, k0, k1⟩ := box2 w (.cells i.cells 27) (.cells effZero 50)
 have hW0 := hW0'.symm
 obtain ⟨c0, c1, c2, c3, c4, c5, c6, c7, c8, c9, c10, c11, c12, c13, c14⟩ := cells15 k0
 have HT := Lib.hid ht
 have HB := Lib.hid hB0
 have HK0 : Hid (InstBox W0 w.heap.size i) := k0
 have HK1 := Lib.hid k1
 have HC1 := Lib.hid (iCheck_any i hsm.sized W0 (ht.below hB0))
 have HBAD := Lib.hid hok
 have hiz := hsm.id
 clear hW0' hz ht hB0 k0 k1 hsm hok
 unfold Inst.enc Inst.cells effZero at *
 go_enter Tryz.func24, Tryz.ntmps24
 go_wp2_with fail
 refine (HC1.out).mono ?_
 rintro e w1 ⟨n, rfl, hn, b⟩
 replace HB := Lib.hid (HB.out.trans (b.mono HB.out.size))
 replace HK0 := Lib.hid (HK0.out.below b)
 replace HK1 := Lib.hid ((b.block (w.heap.size + 1) (Array.getElem?_eq_some_iff.1 HK1.out).1).trans HK1.out)
 clear b
 have t1 : (n == 0) = false := beq_eq_false_iff_ne.2 (fun e => HBAD.out (hn.1 e))
 have t1' : (n != 0) = true := by rw [bne, t1]; rfl
 clear hn HBAD
 clear c0 c1 c2 c3 c4 c5 c6 c7 c8 c9 c10 c11 c12 c13 c14 hW0
 have g1 := HK1.out
 obtain ⟨r0, r1, r2, r3, r4, r5, r6⟩ := cells7 g1
 obtain ⟨f0, f1, f2, f3, f4, f5, f6⟩ := frozen7 g1
 clear g1
 go_wp2_with fail
 have q7 := set7 HK1.out (.int .i64 0) (.int .i64 0) (.string ⟨#[]⟩) (.string ⟨#[]⟩) (.string ⟨#[]⟩) (.string ⟨#[]⟩) (.slice none 0 0)
 have q8 := below7 (b := w.heap.size + 1) (by omega) HB.out (.int .i64 0) (.int .i64 0) (.string ⟨#[]⟩) (.string ⟨#[]⟩) (.string ⟨#[]⟩) (.string ⟨#[]⟩) (.slice none 0 0)
 generalize (((((((w1.setCell ⟨w.heap.size + 1, 0, none⟩ (.int .i64 0)).setCell ⟨w.heap.size + 1, 1, none⟩ (.int .i64 0)).setCell ⟨w.heap.size + 1, 2, none⟩ (.string ⟨#[]⟩)).setCell ⟨w.heap.size + 1, 3, none⟩ (.string ⟨#[]⟩)).setCell ⟨w.heap.size + 1, 4, none⟩ (.string ⟨#[]⟩)).setCell ⟨w.heap.size + 1, 5, none⟩ (.string ⟨#[]⟩)).setCell ⟨w.heap.size + 1, 6, none⟩ (.slice none 0 0)) = W9 at q7 q8 ⊢
 obtain ⟨m0, m1, m2, m3, m4, m5, m6⟩ := cells7 q7
 exact bodyPost_ret (v := .tuple #[.agg effZero, .bool false, .int .i64 1]) (by simp [results, Tryz.results24, go_sem, m0, m1, m2, m3, m4, m5, m6]) rfl ⟨rfl, q8⟩
theorem Effect_e2 (kind : Int) (d : Int) (i : Inst) (ch : ByteArray) (hsm : i.small) (hcz : ch.size ≤ 1000) (hok : i.ok) (hch : ¬ Can ch) (w : World) (ht : Tabs w) :
 Calls Tryz.prog 24 #[.int .i64 kind, .int .i64 d, i.enc, .string ch] w fun e w' => e = .returned (.tuple #[.agg effZero, .bool false, .int .i64 1]) ∧ Below w.heap.size w w' := by
 obtain ⟨W0, hW0', hB0, hz, k0, k1⟩ := box2 w (.cells i.cells 27) (.cells effZero 50)
 have hW0 := hW0'.symm
 obtain ⟨c0, c1, c2, c3, c4, c5, c6, c7, c8, c9, c10, c11, c12, c13, c14⟩ := cells15 k0
 have HT := Lib.hid ht
 have HB := Lib.hid hB0
 have HK0 : Hid (InstBox W0 w.heap.size i) := k0
 have HK1 := Lib.hid k1
 have HC1 := Lib.hid (iCheck_any i hsm.sized W0 (ht.below hB0))
 have HOK := Lib.hid hok
 have HC2 := Lib.hid (fun W => Check_no ch W (by omega) hch)
 have hiz := hsm.id
 clear hW0' hz ht hB0 k0 k1 hsm hok hch
 unfold Inst.enc Inst.cells effZero at *
 go_enter Tryz.func24, Tryz.ntmps24
 go_wp2_with fail
 refine (HC1.out).mono ?_
 rintro e w1 ⟨n, rfl, hn, b⟩
 replace HB := Lib.hid (HB.out.trans (b.mono HB.out.size))
 replace HK0 := Lib.hid (HK0.out.below b)
 replace HK1 := Lib.hid ((b.block (w.heap.size + 1) (Array.getElem?_eq_some_iff.1 HK1.out).1).trans HK1.out)
 clear b
 have hn0 := hn.2 HOK.out
 subst hn0
 clear hn HOK HC1
 clear c0 c1 c2 c3 c4 c5 c6 c7 c8 c9 c10 c11 c12 c13 c14 hW0
 go_wp2_with fail
 refine (HC2.out _).mono ?_
 rintro e w2 ⟨rfl, b⟩
 replace HB := Lib.hid (HB.out.trans (b.mono HB.out.size))
 replace HK0 := Lib.hid (HK0.out.below b)
 replace HK1 := Lib.hid ((b.block (w.heap.size + 1) (Array.getElem?_eq_some_iff.1 HK1.out).1).trans HK1.out)
 clear b
 have g1 := HK1.out
 obtain ⟨r0, r1, r2, r3, r4, r5, r6⟩ := cells7 g1
 obtain ⟨f0, f1, f2, f3, f4, f5, f6⟩ := frozen7 g1
 clear g1
 go_wp2_with fail
 have q7 := set7 HK1.out (.int .i64 0) (.int .i64 0) (.string ⟨#[]⟩) (.string ⟨#[]⟩) (.string ⟨#[]⟩) (.string ⟨#[]⟩) (.slice none 0 0)
 have q8 := below7 (b := w.heap.size + 1) (by omega) HB.out (.int .i64 0) (.int .i64 0) (.string ⟨#[]⟩) (.string ⟨#[]⟩) (.string ⟨#[]⟩) (.string ⟨#[]⟩) (.slice none 0 0)
 generalize (((((((w2.setCell ⟨w.heap.size + 1, 0, none⟩ (.int .i64 0)).setCell ⟨w.heap.size + 1, 1, none⟩ (.int .i64 0)).setCell ⟨w.heap.size + 1, 2, none⟩ (.string ⟨#[]⟩)).setCell ⟨w.heap.size + 1, 3, none⟩ (.string ⟨#[]⟩)).setCell ⟨w.heap.size + 1, 4, none⟩ (.string ⟨#[]⟩)).setCell ⟨w.heap.size + 1, 5, none⟩ (.string ⟨#[]⟩)).setCell ⟨w.heap.size + 1, 6, none⟩ (.slice none 0 0)) = W9 at q7 q8 ⊢
 obtain ⟨m0, m1, m2, m3, m4, m5, m6⟩ := cells7 q7
 exact bodyPost_ret (v := .tuple #[.agg effZero, .bool false, .int .i64 1]) (by simp [results, Tryz.results24, go_sem, m0, m1, m2, m3, m4, m5, m6]) rfl ⟨rfl, q8⟩
theorem Effect_e3 (kind : Int) (d : Int) (i : Inst) (ch : ByteArray) (hsm : i.small) (hcz : ch.size ≤ 1000) (hok : i.ok) (hch : Can ch) (hd : ¬ okDay d) (w : World) (ht : Tabs w) :
 Calls Tryz.prog 24 #[.int .i64 kind, .int .i64 d, i.enc, .string ch] w fun e w' => e = .returned (.tuple #[.agg effZero, .bool false, .int .i64 13]) ∧ Below w.heap.size w w' := by
 obtain ⟨W0, hW0', hB0, hz, k0, k1⟩ := box2 w (.cells i.cells 27) (.cells effZero 50)
 have hW0 := hW0'.symm
 obtain ⟨c0, c1, c2, c3, c4, c5, c6, c7, c8, c9, c10, c11, c12, c13, c14⟩ := cells15 k0
 have HT := Lib.hid ht
 have HB := Lib.hid hB0
 have HK0 : Hid (InstBox W0 w.heap.size i) := k0
 have HK1 := Lib.hid k1
 have HC1 := Lib.hid (iCheck_any i hsm.sized W0 (ht.below hB0))
 have HOK := Lib.hid hok
 have HC2 := Lib.hid (fun W => Check_yes ch W (by omega) hch)
 have HP := Lib.hid (fun W => Print_no d hd W)
 have hiz := hsm.id
 clear hW0' hz ht hB0 k0 k1 hsm hok hch hd
 unfold Inst.enc Inst.cells effZero at *
 go_enter Tryz.func24, Tryz.ntmps24
 go_wp2_with fail
 refine (HC1.out).mono ?_
 rintro e w1 ⟨n, rfl, hn, b⟩
 replace HB := Lib.hid (HB.out.trans (b.mono HB.out.size))
 replace HK0 := Lib.hid (HK0.out.below b)
 replace HK1 := Lib.hid ((b.block (w.heap.size + 1) (Array.getElem?_eq_some_iff.1 HK1.out).1).trans HK1.out)
 clear b
 have hn0 := hn.2 HOK.out
 subst hn0
 clear hn HOK HC1
 clear c0 c1 c2 c3 c4 c5 c6 c7 c8 c9 c10 c11 c12 c13 c14 hW0
 go_wp2_with fail
 refine (HC2.out _).mono ?_
 rintro e w2 ⟨rfl, b⟩
 replace HB := Lib.hid (HB.out.trans (b.mono HB.out.size))
 replace HK0 := Lib.hid (HK0.out.below b)
 replace HK1 := Lib.hid ((b.block (w.heap.size + 1) (Array.getElem?_eq_some_iff.1 HK1.out).1).trans HK1.out)
 clear b
 go_wp2_with fail
 refine (HP.out _).mono ?_
 rintro e w3 ⟨rfl, rfl⟩
 have g1 := HK1.out
 obtain ⟨r0, r1, r2, r3, r4, r5, r6⟩ := cells7 g1
 obtain ⟨f0, f1, f2, f3, f4, f5, f6⟩ := frozen7 g1
 clear g1
 go_wp2_with fail
 have q7 := set7 HK1.out (.int .i64 0) (.int .i64 0) (.string ⟨#[]⟩) (.string ⟨#[]⟩) (.string ⟨#[]⟩) (.string ⟨#[]⟩) (.slice none 0 0)
 have q8 := below7 (b := w.heap.size + 1) (by omega) HB.out (.int .i64 0) (.int .i64 0) (.string ⟨#[]⟩) (.string ⟨#[]⟩) (.string ⟨#[]⟩) (.string ⟨#[]⟩) (.slice none 0 0)
 generalize (((((((w3.setCell ⟨w.heap.size + 1, 0, none⟩ (.int .i64 0)).setCell ⟨w.heap.size + 1, 1, none⟩ (.int .i64 0)).setCell ⟨w.heap.size + 1, 2, none⟩ (.string ⟨#[]⟩)).setCell ⟨w.heap.size + 1, 3, none⟩ (.string ⟨#[]⟩)).setCell ⟨w.heap.size + 1, 4, none⟩ (.string ⟨#[]⟩)).setCell ⟨w.heap.size + 1, 5, none⟩ (.string ⟨#[]⟩)).setCell ⟨w.heap.size + 1, 6, none⟩ (.slice none 0 0)) = W9 at q7 q8 ⊢
 obtain ⟨m0, m1, m2, m3, m4, m5, m6⟩ := cells7 q7
 exact bodyPost_ret (v := .tuple #[.agg effZero, .bool false, .int .i64 13]) (by simp [results, Tryz.results24, go_sem, m0, m1, m2, m3, m4, m5, m6]) rfl ⟨rfl, q8⟩
theorem Effect_e4 (kind : Int) (d : Int) (i : Inst) (ch : ByteArray) (hsm : i.small) (hcz : ch.size ≤ 1000) (hok : i.ok) (hch : Can ch) (hd : okDay d) (hk : ¬ (kind = 17 ∨ kind = 18 ∨ kind = 19)) (w : World) (ht : Tabs w) :
 Calls Tryz.prog 24 #[.int .i64 kind, .int .i64 d, i.enc, .string ch] w fun e w' => e = .returned (.tuple #[.agg effZero, .bool false, .int .i64 7]) ∧ Below w.heap.size w w' := by
 obtain ⟨W0, hW0', hB0, hz, k0, k1⟩ := box2 w (.cells i.cells 27) (.cells effZero 50)
 have hW0 := hW0'.symm
 obtain ⟨c0, c1, c2, c3, c4, c5, c6, c7, c8, c9, c10, c11, c12, c13, c14⟩ := cells15 k0
 have HT := Lib.hid ht
 have HB := Lib.hid hB0
 have HK0 : Hid (InstBox W0 w.heap.size i) := k0
 have HK1 := Lib.hid k1
 have HC1 := Lib.hid (iCheck_any i hsm.sized W0 (ht.below hB0))
 have HOK := Lib.hid hok
 have HC2 := Lib.hid (fun W => Check_yes ch W (by omega) hch)
 have HP := Lib.hid (fun W hW => Print_any d hd W hW)
 have hpz := ptext_size hd w
 have t1 : (kind == 17) = false := beq_eq_false_iff_ne.2 (fun e => hk (.inl e))
 have t1' : (kind != 17) = true := by rw [bne, t1]; rfl
 have t2 : (kind == 18) = false := beq_eq_false_iff_ne.2 (fun e => hk (.inr (.inl e)))
 have t2' : (kind != 18) = true := by rw [bne, t2]; rfl
 have t3 : (kind == 19) = false := beq_eq_false_iff_ne.2 (fun e => hk (.inr (.inr e)))
 have t3' : (kind != 19) = true := by rw [bne, t3]; rfl
 have hiz := hsm.id
 clear hW0' hz ht hB0 k0 k1 hsm hok hch hd hk
 unfold Inst.enc Inst.cells effZero at *
 go_enter Tryz.func24, Tryz.ntmps24
 go_wp2_with fail
 refine (HC1.out).mono ?_
 rintro e w1 ⟨n, rfl, hn, b⟩
 replace HB := Lib.hid (HB.out.trans (b.mono HB.out.size))
 replace HK0 := Lib.hid (HK0.out.below b)
 replace HK1 := Lib.hid ((b.block (w.heap.size + 1) (Array.getElem?_eq_some_iff.1 HK1.out).1).trans HK1.out)
 clear b
 have hn0 := hn.2 HOK.out
 subst hn0
 clear hn HOK HC1
 clear c0 c1 c2 c3 c4 c5 c6 c7 c8 c9 c10 c11 c12 c13 c14 hW0
 go_wp2_with fail
 refine (HC2.out _).mono ?_
 rintro e w2 ⟨rfl, b⟩
 replace HB := Lib.hid (HB.out.trans (b.mono HB.out.size))
 replace HK0 := Lib.hid (HK0.out.below b)
 replace HK1 := Lib.hid ((b.block (w.heap.size + 1) (Array.getElem?_eq_some_iff.1 HK1.out).1).trans HK1.out)
 clear b
 go_wp2_with fail
 refine (HP.out _ (HT.out.below HB.out)).mono ?_
 rintro e w3 ⟨rfl, b⟩
 replace HB := Lib.hid (HB.out.trans (b.mono HB.out.size))
 replace HK0 := Lib.hid (HK0.out.below b)
 replace HK1 := Lib.hid ((b.block (w.heap.size + 1) (Array.getElem?_eq_some_iff.1 HK1.out).1).trans HK1.out)
 clear b
 have g1 := HK1.out
 obtain ⟨r0, r1, r2, r3, r4, r5, r6⟩ := cells7 g1
 obtain ⟨f0, f1, f2, f3, f4, f5, f6⟩ := frozen7 g1
 clear g1
 go_wp2_with fail
 have q7 := set7 HK1.out (.int .i64 0) (.int .i64 0) (.string ⟨#[]⟩) (.string ⟨#[]⟩) (.string ⟨#[]⟩) (.string ⟨#[]⟩) (.slice none 0 0)
 have q8 := below7 (b := w.heap.size + 1) (by omega) HB.out (.int .i64 0) (.int .i64 0) (.string ⟨#[]⟩) (.string ⟨#[]⟩) (.string ⟨#[]⟩) (.string ⟨#[]⟩) (.slice none 0 0)
 generalize (((((((w3.setCell ⟨w.heap.size + 1, 0, none⟩ (.int .i64 0)).setCell ⟨w.heap.size + 1, 1, none⟩ (.int .i64 0)).setCell ⟨w.heap.size + 1, 2, none⟩ (.string ⟨#[]⟩)).setCell ⟨w.heap.size + 1, 3, none⟩ (.string ⟨#[]⟩)).setCell ⟨w.heap.size + 1, 4, none⟩ (.string ⟨#[]⟩)).setCell ⟨w.heap.size + 1, 5, none⟩ (.string ⟨#[]⟩)).setCell ⟨w.heap.size + 1, 6, none⟩ (.slice none 0 0)) = W9 at q7 q8 ⊢
 obtain ⟨m0, m1, m2, m3, m4, m5, m6⟩ := cells7 q7
 exact bodyPost_ret (v := .tuple #[.agg effZero, .bool false, .int .i64 7]) (by simp [results, Tryz.results24, go_sem, m0, m1, m2, m3, m4, m5, m6]) rfl ⟨rfl, q8⟩
end Go.Proofs.YtpgjmdggblnfkaaGreatDoor
