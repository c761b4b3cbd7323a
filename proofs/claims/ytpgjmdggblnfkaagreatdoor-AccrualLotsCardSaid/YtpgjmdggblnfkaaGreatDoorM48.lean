/-
  The walks of trancheref39.Cause, Effect, SameEffect; of slices.Equal over integers. (Printed by gen_ref39.py.)
-/
import Derived.Test.YtpgjmdggblnfkaaGreatDoorM39
import Derived.Test.YtpgjmdggblnfkaaGreatDoorM47
import Derived.Test.YtpgjmdggblnfkaaGreatDoorM26
import Derived.Test.YtpgjmdggblnfkaaGreatDoorLA8
import Derived.Test.YtpgjmdggblnfkaaGreatDoorM40
import Derived.Test.YtpgjmdggblnfkaaGreatDoorM45
set_option linter.unusedVariables false
set_option linter.unusedSimpArgs false
set_option maxHeartbeats 16000000
set_option maxRecDepth 100000
namespace Go.Proofs.YtpgjmdggblnfkaaGreatDoor
open Go.RowKit Tr Go.Shelf
theorem Cause39_any (d : Int) (hd : okDay d) (s : ByteArray) (hs : s.size ≤ 1000) (w : World) :
 Calls Tryz.prog 73 #[.int .i64 d, .string s] w fun e w' => e = .returned (.string (causeB d s)) ∧ Below w.heap.size w w' := by
 have HP := Lib.hid (fun W => rPrint6_any d hd W)
 have hpz := ptext_size hd w
 unfold causeB
 clear hd
 generalize ptext d = t at *
 go_enter Tryz.func73, Tryz.ntmps73
 go_wp2_with fail
 refine (HP.out _).mono ?_
 rintro e w1 ⟨rfl, b1⟩
 go_wp2_with fail
 go_ret
 exact ⟨rfl, b1⟩
theorem eff_close39 {w W4 : World} {B : Nat} {kind d : Int} {i : Inst} {ch : ByteArray} {a : Act} (h1 : W4.heap[w.heap.size + 1]? = some (.cells effZero 50 (0, 0))) (hB : Below w.heap.size w W4)
 (hT : W4.heap[B]? = some (.cells #[.string ⟨#[97, 109, 111, 117, 110, 116]⟩, .string ch] 57 (0, 0))) (hl : w.heap.size + 1 < B) (hd : a.defers = [])
 (hr : ∀ W9 : World, W9.cell? ⟨w.heap.size + 1, 0, none⟩ = some (.int .i64 kind) → W9.cell? ⟨w.heap.size + 1, 1, none⟩ = some (.int .i64 d) → W9.cell? ⟨w.heap.size + 1, 2, none⟩ = some (.string (⟨#[109, 97, 114, 107, 32]⟩ ++ ptext d ++ ⟨#[32]⟩ ++ i.id)) → W9.cell? ⟨w.heap.size + 1, 3, none⟩ = some (.string i.id) → W9.cell? ⟨w.heap.size + 1, 4, none⟩ = some (.string ⟨#[]⟩) → W9.cell? ⟨w.heap.size + 1, 5, none⟩ = some (.string i.cur) → W9.cell? ⟨w.heap.size + 1, 6, none⟩ = some (.slice (some ⟨B, 0, none⟩) 1 1) →
   (results Tryz.f31 a.tmps).run Tryz.prog W9 = .ok (.tuple #[.agg #[.int .i64 kind, .int .i64 d, .string (⟨#[109, 97, 114, 107, 32]⟩ ++ ptext d ++ ⟨#[32]⟩ ++ i.id), .string i.id, .string ⟨#[]⟩, .string i.cur, .slice (some ⟨B, 0, none⟩) 1 1], .bool true, .int .i64 0]) W9) :
 bodyPost Tryz.prog Tryz.f31 (EffPost w kind d i ch) .ret a (((((((W4.setCell ⟨w.heap.size + 1, 0, none⟩ (.int .i64 kind)).setCell ⟨w.heap.size + 1, 1, none⟩ (.int .i64 d)).setCell ⟨w.heap.size + 1, 2, none⟩ (.string (⟨#[109, 97, 114, 107, 32]⟩ ++ ptext d ++ ⟨#[32]⟩ ++ i.id))).setCell ⟨w.heap.size + 1, 3, none⟩ (.string i.id)).setCell ⟨w.heap.size + 1, 4, none⟩ (.string ⟨#[]⟩)).setCell ⟨w.heap.size + 1, 5, none⟩ (.string i.cur)).setCell ⟨w.heap.size + 1, 6, none⟩ (.slice (some ⟨B, 0, none⟩) 1 1)) := by
 have q7 := set7 h1 (.int .i64 kind) (.int .i64 d) (.string (⟨#[109, 97, 114, 107, 32]⟩ ++ ptext d ++ ⟨#[32]⟩ ++ i.id)) (.string i.id) (.string ⟨#[]⟩) (.string i.cur) (.slice (some ⟨B, 0, none⟩) 1 1)
 have q8 := below7 (b := w.heap.size + 1) (by omega) hB (.int .i64 kind) (.int .i64 d) (.string (⟨#[109, 97, 114, 107, 32]⟩ ++ ptext d ++ ⟨#[32]⟩ ++ i.id)) (.string i.id) (.string ⟨#[]⟩) (.string i.cur) (.slice (some ⟨B, 0, none⟩) 1 1)
 have q9 := (far7 (W := W4) (b := w.heap.size + 1) (k := B) (by omega) (.int .i64 kind) (.int .i64 d) (.string (⟨#[109, 97, 114, 107, 32]⟩ ++ ptext d ++ ⟨#[32]⟩ ++ i.id)) (.string i.id) (.string ⟨#[]⟩) (.string i.cur) (.slice (some ⟨B, 0, none⟩) 1 1)).trans hT
 generalize (((((((W4.setCell ⟨w.heap.size + 1, 0, none⟩ (.int .i64 kind)).setCell ⟨w.heap.size + 1, 1, none⟩ (.int .i64 d)).setCell ⟨w.heap.size + 1, 2, none⟩ (.string (⟨#[109, 97, 114, 107, 32]⟩ ++ ptext d ++ ⟨#[32]⟩ ++ i.id))).setCell ⟨w.heap.size + 1, 3, none⟩ (.string i.id)).setCell ⟨w.heap.size + 1, 4, none⟩ (.string ⟨#[]⟩)).setCell ⟨w.heap.size + 1, 5, none⟩ (.string i.cur)).setCell ⟨w.heap.size + 1, 6, none⟩ (.slice (some ⟨B, 0, none⟩) 1 1)) = W9 at q7 q8 q9 ⊢
 have m0 := Lib.cell_of_heap q7 0
 have m1 := Lib.cell_of_heap q7 1
 have m2 := Lib.cell_of_heap q7 2
 have m3 := Lib.cell_of_heap q7 3
 have m4 := Lib.cell_of_heap q7 4
 have m5 := Lib.cell_of_heap q7 5
 have m6 := Lib.cell_of_heap q7 6
 exact bodyPost_ret (hr W9 m0 m1 m2 m3 m4 m5 m6) hd ⟨B, rfl, q9, by omega, q8⟩
theorem Effect39_e1 (kind : Int) (d : Int) (i : Inst) (ch : ByteArray) (hti : i.tiny) (hcz : ch.size ≤ 1000) (hok : ¬ i.ok) (w : World) :
 Calls Tryz.prog 31 #[.int .i64 kind, .int .i64 d, i.enc, .string ch] w fun e w' => e = .returned (.tuple #[.agg effZero, .bool false, .int .i64 1]) ∧ Below w.heap.size w w' := by
 obtain ⟨W0, hW0', hB0, hz, k0, k1⟩ := box2 w (.cells i.cells 27) (.cells effZero 50)
 have hW0 := hW0'.symm
 obtain ⟨c0, c1, c2, c3, c4, c5, c6, c7, c8, c9, c10, c11, c12, c13, c14⟩ := cells15 k0
 have HB := Lib.hid hB0
 have HK0 : Hid (InstBox W0 w.heap.size i) := k0
 have HK1 := Lib.hid k1
 have HC1 := Lib.hid (rCheck10_any i hti W0)
 have HBAD := Lib.hid hok
 clear hW0' hz hB0 k0 k1 hti hok
 unfold Inst.enc Inst.cells effZero at *
 go_enter Tryz.func31, Tryz.ntmps31
 go_wp2_with fail
 refine (HC1.out).mono ?_
 rintro e w1 ⟨n, rfl, hn, b⟩
 replace HB := Lib.hid (HB.out.trans (b.mono HB.out.size))
 replace HK0 := Lib.hid (HK0.out.below b)
 replace HK1 := Lib.hid ((b.block (w.heap.size + 1) (Array.getElem?_eq_some_iff.1 HK1.out).1).trans HK1.out)
 clear b
 have t1 : (n == 0) = false := beq_eq_false_iff_ne.2 (fun e => HBAD.out (hn.1 e))
 have t1' : (n != 0) = true := by rw [bne, t1]; rfl
 clear hn HBAD
 clear c0 c1 c2 c3 c4 c5 c6 c7 c8 c9 c10 c11 c12 c13 c14 hW0
 have g1 := HK1.out
 obtain ⟨r0, r1, r2, r3, r4, r5, r6⟩ := cells7 g1
 obtain ⟨f0, f1, f2, f3, f4, f5, f6⟩ := frozen7 g1
 clear g1
 go_wp2_with fail
 have q7 := set7 HK1.out (.int .i64 0) (.int .i64 0) (.string ⟨#[]⟩) (.string ⟨#[]⟩) (.string ⟨#[]⟩) (.string ⟨#[]⟩) (.slice none 0 0)
 have q8 := below7 (b := w.heap.size + 1) (by omega) HB.out (.int .i64 0) (.int .i64 0) (.string ⟨#[]⟩) (.string ⟨#[]⟩) (.string ⟨#[]⟩) (.string ⟨#[]⟩) (.slice none 0 0)
 generalize (((((((w1.setCell ⟨w.heap.size + 1, 0, none⟩ (.int .i64 0)).setCell ⟨w.heap.size + 1, 1, none⟩ (.int .i64 0)).setCell ⟨w.heap.size + 1, 2, none⟩ (.string ⟨#[]⟩)).setCell ⟨w.heap.size + 1, 3, none⟩ (.string ⟨#[]⟩)).setCell ⟨w.heap.size + 1, 4, none⟩ (.string ⟨#[]⟩)).setCell ⟨w.heap.size + 1, 5, none⟩ (.string ⟨#[]⟩)).setCell ⟨w.heap.size + 1, 6, none⟩ (.slice none 0 0)) = W9 at q7 q8 ⊢
 obtain ⟨m0, m1, m2, m3, m4, m5, m6⟩ := cells7 q7
 exact bodyPost_ret (v := .tuple #[.agg effZero, .bool false, .int .i64 1]) (by simp [results, Tryz.results31, go_sem, m0, m1, m2, m3, m4, m5, m6]) rfl ⟨rfl, q8⟩
theorem Effect39_e2 (kind : Int) (d : Int) (i : Inst) (ch : ByteArray) (hti : i.tiny) (hcz : ch.size ≤ 1000) (hok : i.ok) (hch : ¬ Can ch) (w : World) :
 Calls Tryz.prog 31 #[.int .i64 kind, .int .i64 d, i.enc, .string ch] w fun e w' => e = .returned (.tuple #[.agg effZero, .bool false, .int .i64 1]) ∧ Below w.heap.size w w' := by
 obtain ⟨W0, hW0', hB0, hz, k0, k1⟩ := box2 w (.cells i.cells 27) (.cells effZero 50)
 have hW0 := hW0'.symm
 obtain ⟨c0, c1, c2, c3, c4, c5, c6, c7, c8, c9, c10, c11, c12, c13, c14⟩ := cells15 k0
 have HB := Lib.hid hB0
 have HK0 : Hid (InstBox W0 w.heap.size i) := k0
 have HK1 := Lib.hid k1
 have HC1 := Lib.hid (rCheck10_any i hti W0)
 have HOK := Lib.hid hok
 have HC2 := Lib.hid (fun W => rCheck_no ch (by omega) hch W)
 clear hW0' hz hB0 k0 k1 hti hok hch
 unfold Inst.enc Inst.cells effZero at *
 go_enter Tryz.func31, Tryz.ntmps31
 go_wp2_with fail
 refine (HC1.out).mono ?_
 rintro e w1 ⟨n, rfl, hn, b⟩
 replace HB := Lib.hid (HB.out.trans (b.mono HB.out.size))
 replace HK0 := Lib.hid (HK0.out.below b)
 replace HK1 := Lib.hid ((b.block (w.heap.size + 1) (Array.getElem?_eq_some_iff.1 HK1.out).1).trans HK1.out)
 clear b
 have hn0 := hn.2 HOK.out
 subst hn0
 clear hn HOK HC1
 clear c0 c1 c2 c3 c4 c5 c6 c7 c8 c9 c10 c11 c12 c13 c14 hW0
 go_wp2_with fail
 refine (HC2.out _).mono ?_
 rintro e w2 ⟨rfl, rfl⟩
 have g1 := HK1.out
 obtain ⟨r0, r1, r2, r3, r4, r5, r6⟩ := cells7 g1
 obtain ⟨f0, f1, f2, f3, f4, f5, f6⟩ := frozen7 g1
 clear g1
 go_wp2_with fail
 have q7 := set7 HK1.out (.int .i64 0) (.int .i64 0) (.string ⟨#[]⟩) (.string ⟨#[]⟩) (.string ⟨#[]⟩) (.string ⟨#[]⟩) (.slice none 0 0)
 have q8 := below7 (b := w.heap.size + 1) (by omega) HB.out (.int .i64 0) (.int .i64 0) (.string ⟨#[]⟩) (.string ⟨#[]⟩) (.string ⟨#[]⟩) (.string ⟨#[]⟩) (.slice none 0 0)
 generalize (((((((w1.setCell ⟨w.heap.size + 1, 0, none⟩ (.int .i64 0)).setCell ⟨w.heap.size + 1, 1, none⟩ (.int .i64 0)).setCell ⟨w.heap.size + 1, 2, none⟩ (.string ⟨#[]⟩)).setCell ⟨w.heap.size + 1, 3, none⟩ (.string ⟨#[]⟩)).setCell ⟨w.heap.size + 1, 4, none⟩ (.string ⟨#[]⟩)).setCell ⟨w.heap.size + 1, 5, none⟩ (.string ⟨#[]⟩)).setCell ⟨w.heap.size + 1, 6, none⟩ (.slice none 0 0)) = W9 at q7 q8 ⊢
 obtain ⟨m0, m1, m2, m3, m4, m5, m6⟩ := cells7 q7
 exact bodyPost_ret (v := .tuple #[.agg effZero, .bool false, .int .i64 1]) (by simp [results, Tryz.results31, go_sem, m0, m1, m2, m3, m4, m5, m6]) rfl ⟨rfl, q8⟩
theorem Effect39_e3 (kind : Int) (d : Int) (i : Inst) (ch : ByteArray) (hti : i.tiny) (hcz : ch.size ≤ 1000) (hok : i.ok) (hch : Can ch) (hd : ¬ okDay d) (w : World) :
 Calls Tryz.prog 31 #[.int .i64 kind, .int .i64 d, i.enc, .string ch] w fun e w' => e = .returned (.tuple #[.agg effZero, .bool false, .int .i64 13]) ∧ Below w.heap.size w w' := by
 obtain ⟨W0, hW0', hB0, hz, k0, k1⟩ := box2 w (.cells i.cells 27) (.cells effZero 50)
 have hW0 := hW0'.symm
 obtain ⟨c0, c1, c2, c3, c4, c5, c6, c7, c8, c9, c10, c11, c12, c13, c14⟩ := cells15 k0
 have HB := Lib.hid hB0
 have HK0 : Hid (InstBox W0 w.heap.size i) := k0
 have HK1 := Lib.hid k1
 have HC1 := Lib.hid (rCheck10_any i hti W0)
 have HOK := Lib.hid hok
 have HC2 := Lib.hid (fun W => rCheck_yes ch (by omega) hch W)
 have HD := Lib.hid (fun W => rday39_any d W)
 rw [decide_eq_false hd] at HD
 clear hW0' hz hB0 k0 k1 hti hok hch hd
 unfold Inst.enc Inst.cells effZero at *
 go_enter Tryz.func31, Tryz.ntmps31
 go_wp2_with fail
 refine (HC1.out).mono ?_
 rintro e w1 ⟨n, rfl, hn, b⟩
 replace HB := Lib.hid (HB.out.trans (b.mono HB.out.size))
 replace HK0 := Lib.hid (HK0.out.below b)
 replace HK1 := Lib.hid ((b.block (w.heap.size + 1) (Array.getElem?_eq_some_iff.1 HK1.out).1).trans HK1.out)
 clear b
 have hn0 := hn.2 HOK.out
 subst hn0
 clear hn HOK HC1
 clear c0 c1 c2 c3 c4 c5 c6 c7 c8 c9 c10 c11 c12 c13 c14 hW0
 go_wp2_with fail
 refine (HC2.out _).mono ?_
 rintro e w2 ⟨rfl, rfl⟩
 go_wp2_with fail
 refine (HD.out _).mono ?_
 rintro e w3 ⟨rfl, rfl⟩
 have g1 := HK1.out
 obtain ⟨r0, r1, r2, r3, r4, r5, r6⟩ := cells7 g1
 obtain ⟨f0, f1, f2, f3, f4, f5, f6⟩ := frozen7 g1
 clear g1
 go_wp2_with fail
 have q7 := set7 HK1.out (.int .i64 0) (.int .i64 0) (.string ⟨#[]⟩) (.string ⟨#[]⟩) (.string ⟨#[]⟩) (.string ⟨#[]⟩) (.slice none 0 0)
 have q8 := below7 (b := w.heap.size + 1) (by omega) HB.out (.int .i64 0) (.int .i64 0) (.string ⟨#[]⟩) (.string ⟨#[]⟩) (.string ⟨#[]⟩) (.string ⟨#[]⟩) (.slice none 0 0)
 generalize (((((((w1.setCell ⟨w.heap.size + 1, 0, none⟩ (.int .i64 0)).setCell ⟨w.heap.size + 1, 1, none⟩ (.int .i64 0)).setCell ⟨w.heap.size + 1, 2, none⟩ (.string ⟨#[]⟩)).setCell ⟨w.heap.size + 1, 3, none⟩ (.string ⟨#[]⟩)).setCell ⟨w.heap.size + 1, 4, none⟩ (.string ⟨#[]⟩)).setCell ⟨w.heap.size + 1, 5, none⟩ (.string ⟨#[]⟩)).setCell ⟨w.heap.size + 1, 6, none⟩ (.slice none 0 0)) = W9 at q7 q8 ⊢
 obtain ⟨m0, m1, m2, m3, m4, m5, m6⟩ := cells7 q7
 exact bodyPost_ret (v := .tuple #[.agg effZero, .bool false, .int .i64 13]) (by simp [results, Tryz.results31, go_sem, m0, m1, m2, m3, m4, m5, m6]) rfl ⟨rfl, q8⟩
theorem Effect39_e4 (kind : Int) (d : Int) (i : Inst) (ch : ByteArray) (hti : i.tiny) (hcz : ch.size ≤ 1000) (hok : i.ok) (hch : Can ch) (hd : okDay d) (hk : ¬ (kind = 17 ∨ kind = 18 ∨ kind = 19)) (w : World) :
 Calls Tryz.prog 31 #[.int .i64 kind, .int .i64 d, i.enc, .string ch] w fun e w' => e = .returned (.tuple #[.agg effZero, .bool false, .int .i64 7]) ∧ Below w.heap.size w w' := by
 obtain ⟨W0, hW0', hB0, hz, k0, k1⟩ := box2 w (.cells i.cells 27) (.cells effZero 50)
 have hW0 := hW0'.symm
 obtain ⟨c0, c1, c2, c3, c4, c5, c6, c7, c8, c9, c10, c11, c12, c13, c14⟩ := cells15 k0
 have HB := Lib.hid hB0
 have HK0 : Hid (InstBox W0 w.heap.size i) := k0
 have HK1 := Lib.hid k1
 have HC1 := Lib.hid (rCheck10_any i hti W0)
 have HOK := Lib.hid hok
 have HC2 := Lib.hid (fun W => rCheck_yes ch (by omega) hch W)
 have HD := Lib.hid (fun W => rday39_any d W)
 rw [decide_eq_true hd] at HD
 have t1 : (kind == 17) = false := beq_eq_false_iff_ne.2 (fun e => hk (.inl e))
 have t1' : (kind != 17) = true := by rw [bne, t1]; rfl
 have t2 : (kind == 18) = false := beq_eq_false_iff_ne.2 (fun e => hk (.inr (.inl e)))
 have t2' : (kind != 18) = true := by rw [bne, t2]; rfl
 have t3 : (kind == 19) = false := beq_eq_false_iff_ne.2 (fun e => hk (.inr (.inr e)))
 have t3' : (kind != 19) = true := by rw [bne, t3]; rfl
 clear hW0' hz hB0 k0 k1 hti hok hch hd hk
 unfold Inst.enc Inst.cells effZero at *
 go_enter Tryz.func31, Tryz.ntmps31
 go_wp2_with fail
 refine (HC1.out).mono ?_
 rintro e w1 ⟨n, rfl, hn, b⟩
 replace HB := Lib.hid (HB.out.trans (b.mono HB.out.size))
 replace HK0 := Lib.hid (HK0.out.below b)
 replace HK1 := Lib.hid ((b.block (w.heap.size + 1) (Array.getElem?_eq_some_iff.1 HK1.out).1).trans HK1.out)
 clear b
 have hn0 := hn.2 HOK.out
 subst hn0
 clear hn HOK HC1
 clear c0 c1 c2 c3 c4 c5 c6 c7 c8 c9 c10 c11 c12 c13 c14 hW0
 go_wp2_with fail
 refine (HC2.out _).mono ?_
 rintro e w2 ⟨rfl, rfl⟩
 go_wp2_with fail
 refine (HD.out _).mono ?_
 rintro e w3 ⟨rfl, rfl⟩
 have g1 := HK1.out
 obtain ⟨r0, r1, r2, r3, r4, r5, r6⟩ := cells7 g1
 obtain ⟨f0, f1, f2, f3, f4, f5, f6⟩ := frozen7 g1
 clear g1
 go_wp2_with fail
 have q7 := set7 HK1.out (.int .i64 0) (.int .i64 0) (.string ⟨#[]⟩) (.string ⟨#[]⟩) (.string ⟨#[]⟩) (.string ⟨#[]⟩) (.slice none 0 0)
 have q8 := below7 (b := w.heap.size + 1) (by omega) HB.out (.int .i64 0) (.int .i64 0) (.string ⟨#[]⟩) (.string ⟨#[]⟩) (.string ⟨#[]⟩) (.string ⟨#[]⟩) (.slice none 0 0)
 generalize (((((((w1.setCell ⟨w.heap.size + 1, 0, none⟩ (.int .i64 0)).setCell ⟨w.heap.size + 1, 1, none⟩ (.int .i64 0)).setCell ⟨w.heap.size + 1, 2, none⟩ (.string ⟨#[]⟩)).setCell ⟨w.heap.size + 1, 3, none⟩ (.string ⟨#[]⟩)).setCell ⟨w.heap.size + 1, 4, none⟩ (.string ⟨#[]⟩)).setCell ⟨w.heap.size + 1, 5, none⟩ (.string ⟨#[]⟩)).setCell ⟨w.heap.size + 1, 6, none⟩ (.slice none 0 0)) = W9 at q7 q8 ⊢
 obtain ⟨m0, m1, m2, m3, m4, m5, m6⟩ := cells7 q7
 exact bodyPost_ret (v := .tuple #[.agg effZero, .bool false, .int .i64 7]) (by simp [results, Tryz.results31, go_sem, m0, m1, m2, m3, m4, m5, m6]) rfl ⟨rfl, q8⟩
theorem Effect39_none (kind : Int) (d : Int) (i : Inst) (ch : ByteArray) (hti : i.tiny) (hcz : ch.size ≤ 1000) (hok : i.ok) (hce : ch = ⟨#[]⟩) (hd : okDay d) (hk : kind = 17 ∨ kind = 18 ∨ kind = 19) (w : World) :
 Calls Tryz.prog 31 #[.int .i64 kind, .int .i64 d, i.enc, .string ch] w fun e w' => e = .returned (.tuple #[.agg effZero, .bool false, .int .i64 0]) ∧ Below w.heap.size w w' := by
 obtain ⟨W0, hW0', hB0, hz, k0, k1⟩ := box2 w (.cells i.cells 27) (.cells effZero 50)
 have hW0 := hW0'.symm
 obtain ⟨c0, c1, c2, c3, c4, c5, c6, c7, c8, c9, c10, c11, c12, c13, c14⟩ := cells15 k0
 have HB := Lib.hid hB0
 have HK0 : Hid (InstBox W0 w.heap.size i) := k0
 have HK1 := Lib.hid k1
 have HC1 := Lib.hid (rCheck10_any i hti W0)
 have HOK := Lib.hid hok
 have hch : Can ch := by subst hce; rfl
 have HC2 := Lib.hid (fun W => rCheck_yes ch (by omega) hch W)
 have HD := Lib.hid (fun W => rday39_any d W)
 rw [decide_eq_true hd] at HD
 have hne := str_empty ch
 rw [decide_eq_true hce] at hne
 clear hch hce
 clear hW0' hz hB0 k0 k1 hti hok hd
 unfold Inst.enc Inst.cells effZero at *
 have ht : ((kind != 17) = false) ∨ ((kind != 17) = true ∧ (kind != 18) = false) ∨ ((kind != 17) = true ∧ (kind != 18) = true ∧ (kind != 19) = false) := by
  rcases hk with rfl | rfl | rfl
  ·exact .inl rfl
  ·exact .inr (.inl ⟨rfl, rfl⟩)
  ·exact .inr (.inr ⟨rfl, rfl, rfl⟩)
 clear hk
 rcases ht with t1 | ⟨t1, t2⟩ | ⟨t1, t2, t3⟩
 all_goals
  go_enter Tryz.func31, Tryz.ntmps31
  go_wp2_with fail
  refine (HC1.out).mono ?_
  rintro e w1 ⟨n, rfl, hn, b⟩
  replace HB := Lib.hid (HB.out.trans (b.mono HB.out.size))
  replace HK0 := Lib.hid (HK0.out.below b)
  replace HK1 := Lib.hid ((b.block (w.heap.size + 1) (Array.getElem?_eq_some_iff.1 HK1.out).1).trans HK1.out)
  clear b
  have hn0 := hn.2 HOK.out
  subst hn0
  clear hn HOK HC1
  clear c0 c1 c2 c3 c4 c5 c6 c7 c8 c9 c10 c11 c12 c13 c14 hW0
  go_wp2_with fail
  refine (HC2.out _).mono ?_
  rintro e w2 ⟨rfl, rfl⟩
  go_wp2_with fail
  refine (HD.out _).mono ?_
  rintro e w3 ⟨rfl, rfl⟩
  have g1 := HK1.out
  obtain ⟨r0, r1, r2, r3, r4, r5, r6⟩ := cells7 g1
  obtain ⟨f0, f1, f2, f3, f4, f5, f6⟩ := frozen7 g1
  clear g1
  go_wp2_with fail
  have q7 := set7 HK1.out (.int .i64 0) (.int .i64 0) (.string ⟨#[]⟩) (.string ⟨#[]⟩) (.string ⟨#[]⟩) (.string ⟨#[]⟩) (.slice none 0 0)
  have q8 := below7 (b := w.heap.size + 1) (by omega) HB.out (.int .i64 0) (.int .i64 0) (.string ⟨#[]⟩) (.string ⟨#[]⟩) (.string ⟨#[]⟩) (.string ⟨#[]⟩) (.slice none 0 0)
  generalize (((((((w1.setCell ⟨w.heap.size + 1, 0, none⟩ (.int .i64 0)).setCell ⟨w.heap.size + 1, 1, none⟩ (.int .i64 0)).setCell ⟨w.heap.size + 1, 2, none⟩ (.string ⟨#[]⟩)).setCell ⟨w.heap.size + 1, 3, none⟩ (.string ⟨#[]⟩)).setCell ⟨w.heap.size + 1, 4, none⟩ (.string ⟨#[]⟩)).setCell ⟨w.heap.size + 1, 5, none⟩ (.string ⟨#[]⟩)).setCell ⟨w.heap.size + 1, 6, none⟩ (.slice none 0 0)) = W9 at q7 q8 ⊢
  obtain ⟨m0, m1, m2, m3, m4, m5, m6⟩ := cells7 q7
  exact bodyPost_ret (v := .tuple #[.agg effZero, .bool false, .int .i64 0]) (by simp [results, Tryz.results31, go_sem, m0, m1, m2, m3, m4, m5, m6]) rfl ⟨rfl, q8⟩
structure EB (w : World) (i : Inst) (W : World) : Prop where
 ib : InstBox W w.heap.size i
 rb : W.heap[w.heap.size + 1]? = some (.cells effZero 50 (0, 0))
 bel : Below w.heap.size w W
theorem EB.below {w : World} {i : Inst} {W W' : World} (h : EB w i W) (hb : Below W.heap.size W W') : EB w i W' :=
 ⟨h.ib.below hb, (hb.block _ (Array.getElem?_eq_some_iff.1 h.rb).1).trans h.rb, h.bel.trans (hb.mono h.bel.size)⟩
theorem EB.lt {w : World} {i : Inst} {W : World} (h : EB w i W) : w.heap.size + 1 < W.heap.size := (Array.getElem?_eq_some_iff.1 h.rb).1
def EBc (w : World) (i : Inst) (W : World) : Prop := W.cell? ⟨w.heap.size, 0, none⟩ = some (.string i.id) ∧ W.cell? ⟨w.heap.size, 2, none⟩ = some (.string i.cur)
theorem EB.cells {w : World} {i : Inst} {W : World} (h : EB w i W) : EBc w i W := ⟨Lib.cell_of_heap h.ib 0, Lib.cell_of_heap h.ib 2⟩
structure EEV (w : World) (i : Inst) (kind d : Int) (ch : ByteArray) (B : Nat) (L : Array Bool) (W : World) (s9 s10 s38 s39 s40 s41 s42 s43 s44 s45 s46 s47 s48 s49 s50 s51 : Value) : Prop where
 k0 : L.getD 0 false = true → s38 = .int .i64 kind
 k1 : L.getD 1 false = true → s39 = .int .i64 d
 k2 : L.getD 2 false = true → s40 = .int .i64 d
 k3 : L.getD 3 false = true → s41 = .pointer (some ⟨w.heap.size, 0, none⟩)
 k4 : L.getD 4 false = true → s42 = .string i.id
 k5 : L.getD 5 false = true → s43 = .string (⟨#[109, 97, 114, 107, 32]⟩ ++ ptext d ++ ⟨#[32]⟩ ++ i.id)
 k6 : L.getD 6 false = true → s44 = .pointer (some ⟨w.heap.size, 0, none⟩)
 k7 : L.getD 7 false = true → s45 = .string i.id
 k8 : L.getD 8 false = true → s46 = .pointer (some ⟨w.heap.size, 2, none⟩)
 k9 : L.getD 9 false = true → s47 = .string i.cur
 k10 : L.getD 10 false = true → s48 = .string ch
 k11 : L.getD 11 false = true → s49 = .agg #[.string ⟨#[97, 109, 111, 117, 110, 116]⟩, .string ch]
 k12 : L.getD 12 false = true → s50 = .slice (some ⟨B, 0, none⟩) 1 1
 k13 : L.getD 13 false = true → s51 = .agg #[.int .i64 kind, .int .i64 d, .string (⟨#[109, 97, 114, 107, 32]⟩ ++ ptext d ++ ⟨#[32]⟩ ++ i.id), .string i.id, .string ⟨#[]⟩, .string i.cur, .slice (some ⟨B, 0, none⟩) 1 1]
 k15 : L.getD 15 false = true → s9 = .bool true
 k16 : L.getD 16 false = true → s10 = .int .i64 0
 g : L.getD 14 false = false → EB w i W
 t : L.getD 12 false = true → W.heap[B]? = some (.cells #[.string ⟨#[97, 109, 111, 117, 110, 116]⟩, .string ch] 57 (0, 0))
 n : L.getD 12 false = true → w.heap.size + 1 < B
 h : L.getD 14 false = true → W.heap[w.heap.size + 1]? = some (.cells #[.int .i64 kind, .int .i64 d, .string (⟨#[109, 97, 114, 107, 32]⟩ ++ ptext d ++ ⟨#[32]⟩ ++ i.id), .string i.id, .string ⟨#[]⟩, .string i.cur, .slice (some ⟨B, 0, none⟩) 1 1] 50 (0, 0))
 be : Below w.heap.size w W
 sz : w.heap.size + 1 < W.heap.size
 q : L.getD 14 false = true → L.getD 13 false = true
 q13 : L.getD 13 false = true → L.getD 12 false = true
 c : W.cell? ⟨w.heap.size, 0, none⟩ = some (.string i.id) ∧ W.cell? ⟨w.heap.size, 2, none⟩ = some (.string i.cur)
 q5 : L.getD 13 false = true → L.getD 5 false = true
structure EEJ (w : World) (i : Inst) (kind d : Int) (ch : ByteArray) (x2 x4 x5 x7 x11 x12 x13 x14 x15 x16 x17 x18 x19 x20 x21 x22 x23 x24 x25 x26 x27 x28 x29 x30 x31 x32 x33 x34 x35 x36 x37 : Value) (L : Array Bool) (a : Act) (W : World) : Prop where
 sz : L.size = 17
 fr : ∃ B : Nat, ∃ s9 s10 s38 s39 s40 s41 s42 s43 s44 s45 s46 s47 s48 s49 s50 s51 : Value, a = { tmps := #[.int .i64 kind, .int .i64 d, x2, .string ch, x4, x5, .pointer (some ⟨w.heap.size, 0, none⟩), x7, .pointer (some ⟨w.heap.size + 1, 0, none⟩), s9, s10, x11, x12, x13, x14, x15, x16, x17, x18, x19, x20, x21, x22, x23, x24, x25, x26, x27, x28, x29, x30, x31, x32, x33, x34, x35, x36, x37, s38, s39, s40, s41, s42, s43, s44, s45, s46, s47, s48, s49, s50, s51], defers := [] } ∧ EEV w i kind d ch B L W s9 s10 s38 s39 s40 s41 s42 s43 s44 s45 s46 s47 s48 s49 s50 s51
theorem Effect39_some (kind : Int) (hk : kind = 17 ∨ kind = 18 ∨ kind = 19) (d : Int) (hd : okDay d) (i : Inst) (hti : i.tiny) (hok : i.ok) (ch : ByteArray) (hch : Can ch) (hcz : ch.size ≤ 1000) (hne : ch ≠ ⟨#[]⟩) (w : World) :
 Calls Tryz.prog 31 #[.int .i64 kind, .int .i64 d, i.enc, .string ch] w (EffPost w kind d i ch) := by
 have hne' := str_empty ch
 rw [decide_eq_false hne] at hne'
 clear hne
 obtain ⟨W0, hW0', hB0, hz, k0, k1⟩ := box2 w (.cells i.cells 27) (.cells effZero 50)
 have hW0 := hW0'.symm
 obtain ⟨c0, c1, c2, c3, c4, c5, c6, c7, c8, c9, c10, c11, c12, c13, c14⟩ := cells15 k0
 have HG0 : Hid (EB w i W0) := ⟨k0, k1, hB0⟩
 have HC1 := Lib.hid (rCheck10_any i hti W0)
 have HOK := Lib.hid hok
 have HC2 := Lib.hid (fun W => rCheck_yes ch (by omega) hch W)
 have HD := Lib.hid (fun W => rday39_any d W)
 rw [decide_eq_true hd] at HD
 have hiz : i.id.size ≤ 40 := hti.1
 have HCA : Hid (∀ W, EB w i W → Calls Tryz.prog 73 #[.int .i64 d, .string i.id] W fun e wn => e = .returned (.string (⟨#[109, 97, 114, 107, 32]⟩ ++ ptext d ++ ⟨#[32]⟩ ++ i.id)) ∧ EB w i wn ∧ Below W.heap.size W wn ∧ EBc w i wn) := fun W hW => by
  refine (Cause39_any d hd i.id (by omega) W).mono ?_
  rintro e wn ⟨rfl, bn⟩
  exact ⟨rfl, hW.below bn, bn, (hW.below bn).cells⟩
 clear hW0' hz hB0 k0 k1 hti hok hch hd
 unfold Inst.enc Inst.cells effZero at *
 have ht : ((kind != 17) = false) ∨ ((kind != 17) = true ∧ (kind != 18) = false) ∨ ((kind != 17) = true ∧ (kind != 18) = true ∧ (kind != 19) = false) := by
  rcases hk with rfl | rfl | rfl
  ·exact .inl rfl
  ·exact .inr (.inl ⟨rfl, rfl⟩)
  ·exact .inr (.inr ⟨rfl, rfl, rfl⟩)
 clear hk
 rcases ht with t1 | ⟨t1, t2⟩ | ⟨t1, t2, t3⟩
 all_goals
  go_enter Tryz.func31, Tryz.ntmps31
  go_wp2_with fail
  refine HC1.out.mono ?_
  rintro e w1 ⟨n, rfl, hn, b⟩
  replace HG0 := Lib.hid (HG0.out.below b)
  have hn0 := hn.2 HOK.out
  subst hn0
  clear hn HOK HC1 b hW0
  clear c0 c1 c2 c3 c4 c5 c6 c7 c8 c9 c10 c11 c12 c13 c14
  go_wp2_with fail
  refine (HC2.out _).mono ?_
  rintro e w1 ⟨rfl, rfl⟩
  go_wp2_with fail
  refine (HD.out _).mono ?_
  rintro e w1 ⟨rfl, rfl⟩
  clear HC2 HD
  go_upto_region 9 with fail
  have hg : EB w i w1.drew := HG0.out.below (Below.refl _ _).drew
  clear HG0
  have mixed : Tryz.prog.follows .mixedOrders = true := by kernel_rfl
  refine wp_region_any mixed (wpAny_inv (EEJ w i kind d ch _ _ _ _ _ _ _ _ _ _ _ _ _ _ _ _ _ _ _ _ _ _ _ _ _ _ _ _ _ _ _) ?st ?dn _ _ _ _ ⟨by simp, ⟨0, _, _, _, _, _, _, _, _, _, _, _, _, _, _, _, _, rfl, fun h => by simp at h, fun h => by simp at h, fun h => by simp at h, fun h => by simp at h, fun h => by simp at h, fun h => by simp at h, fun h => by simp at h, fun h => by simp at h, fun h => by simp at h, fun h => by simp at h, fun h => by simp at h, fun h => by simp at h, fun h => by simp at h, fun h => by simp at h, fun h => by simp at h, fun h => by simp at h, fun _ => hg, fun h => by simp at h, fun h => by simp at h, fun h => by simp at h, hg.bel, hg.lt, fun h => by simp at h, fun h => by simp at h, hg.cells, fun h => by simp at h⟩⟩ (by decide))
  case dn =>
   intro L a w' hj hr
   have all : ∀ i, i < 17 → L.getD i false = true := by
    intro i
    induction i using Nat.strongRecOn with
    | ind i ih =>
      intro hi
      refine (off_or_on L i).resolve_left fun h => ?_
      refine List.eq_nil_iff_forall_not_mem.1 hr i (ready_of (by rw [hj.sz]; exact hi) h (Array.getElem?_eq_getElem (by simpa using hi)) (fun e he hbd => ih e.on ?_ ?_))
      all_goals
       rcases (show i = 0 ∨ i = 1 ∨ i = 2 ∨ i = 3 ∨ i = 4 ∨ i = 5 ∨ i = 6 ∨ i = 7 ∨ i = 8 ∨ i = 9 ∨ i = 10 ∨ i = 11 ∨ i = 12 ∨ i = 13 ∨ i = 14 ∨ i = 15 ∨ i = 16 from by omega) with rfl | rfl | rfl | rfl | rfl | rfl | rfl | rfl | rfl | rfl | rfl | rfl | rfl | rfl | rfl | rfl | rfl
       all_goals
        first | (simp at he; done) | (simp at he; first | (subst he; first | decide | (exact absurd hbd (by decide))) | (rcases he with rfl | rfl | rfl | rfl | rfl | rfl | rfl | rfl | rfl | rfl | rfl | rfl | rfl | rfl | rfl | rfl | rfl | rfl | rfl | rfl | rfl | rfl <;> first | decide | (exact absurd hbd (by decide))) | (rcases he with rfl | rfl | rfl | rfl | rfl | rfl | rfl | rfl | rfl | rfl | rfl | rfl | rfl | rfl | rfl | rfl | rfl | rfl | rfl | rfl | rfl <;> first | decide | (exact absurd hbd (by decide))) | (rcases he with rfl | rfl | rfl | rfl | rfl | rfl | rfl | rfl | rfl | rfl | rfl | rfl | rfl | rfl | rfl | rfl | rfl | rfl | rfl | rfl <;> first | decide | (exact absurd hbd (by decide))) | (rcases he with rfl | rfl | rfl | rfl | rfl | rfl | rfl | rfl | rfl | rfl | rfl | rfl | rfl | rfl | rfl | rfl | rfl | rfl | rfl <;> first | decide | (exact absurd hbd (by decide))) | (rcases he with rfl | rfl | rfl | rfl | rfl | rfl | rfl | rfl | rfl | rfl | rfl | rfl | rfl | rfl | rfl | rfl | rfl | rfl <;> first | decide | (exact absurd hbd (by decide))) | (rcases he with rfl | rfl | rfl | rfl | rfl | rfl | rfl | rfl | rfl | rfl | rfl | rfl | rfl | rfl | rfl | rfl | rfl <;> first | decide | (exact absurd hbd (by decide))) | (rcases he with rfl | rfl | rfl | rfl | rfl | rfl | rfl | rfl | rfl | rfl | rfl | rfl | rfl | rfl | rfl | rfl <;> first | decide | (exact absurd hbd (by decide))) | (rcases he with rfl | rfl | rfl | rfl | rfl | rfl | rfl | rfl | rfl | rfl | rfl | rfl | rfl | rfl | rfl <;> first | decide | (exact absurd hbd (by decide))) | (rcases he with rfl | rfl | rfl | rfl | rfl | rfl | rfl | rfl | rfl | rfl | rfl | rfl | rfl | rfl <;> first | decide | (exact absurd hbd (by decide))) | (rcases he with rfl | rfl | rfl | rfl | rfl | rfl | rfl | rfl | rfl | rfl | rfl | rfl | rfl <;> first | decide | (exact absurd hbd (by decide))) | (rcases he with rfl | rfl | rfl | rfl | rfl | rfl | rfl | rfl | rfl | rfl | rfl | rfl <;> first | decide | (exact absurd hbd (by decide))) | (rcases he with rfl | rfl | rfl | rfl | rfl | rfl | rfl | rfl | rfl | rfl | rfl <;> first | decide | (exact absurd hbd (by decide))) | (rcases he with rfl | rfl | rfl | rfl | rfl | rfl | rfl | rfl | rfl | rfl <;> first | decide | (exact absurd hbd (by decide))) | (rcases he with rfl | rfl | rfl | rfl | rfl | rfl | rfl | rfl | rfl <;> first | decide | (exact absurd hbd (by decide))) | (rcases he with rfl | rfl | rfl | rfl | rfl | rfl | rfl | rfl <;> first | decide | (exact absurd hbd (by decide))) | (rcases he with rfl | rfl | rfl | rfl | rfl | rfl | rfl <;> first | decide | (exact absurd hbd (by decide))) | (rcases he with rfl | rfl | rfl | rfl | rfl | rfl <;> first | decide | (exact absurd hbd (by decide))) | (rcases he with rfl | rfl | rfl | rfl | rfl <;> first | decide | (exact absurd hbd (by decide))) | (rcases he with rfl | rfl | rfl | rfl <;> first | decide | (exact absurd hbd (by decide))) | (rcases he with rfl | rfl | rfl <;> first | decide | (exact absurd hbd (by decide))) | (rcases he with rfl | rfl <;> first | decide | (exact absurd hbd (by decide))))
   obtain ⟨B, s9, s10, s38, s39, s40, s41, s42, s43, s44, s45, s46, s47, s48, s49, s50, s51, rfl, hv⟩ := hj.fr
   have e9 := hv.k15 (all 15 (by omega)); have e10 := hv.k16 (all 16 (by omega))
   subst e9 e10
   have HD := Lib.hid (And.intro (hv.h (all 14 (by omega))) (And.intro (hv.t (all 12 (by omega))) (And.intro (hv.n (all 12 (by omega))) hv.be)))
   clear all hv hj hr
   dsimp only
   (first | go_wp2_with fail | skip)
   have h7 := HD.out.1
   obtain ⟨m0, m1, m2, m3, m4, m5, m6⟩ := cells7 h7
   clear h7
   exact bodyPost_ret (v := .tuple #[.agg #[.int .i64 kind, .int .i64 d, .string (⟨#[109, 97, 114, 107, 32]⟩ ++ ptext d ++ ⟨#[32]⟩ ++ i.id), .string i.id, .string ⟨#[]⟩, .string i.cur, .slice (some ⟨B, 0, none⟩) 1 1], .bool true, .int .i64 0]) (by simp [results, Tryz.results31, go_sem, m0, m1, m2, m3, m4, m5, m6]) rfl ⟨B, rfl, HD.out.2.1, by have := HD.out.2.2.1; omega, HD.out.2.2.2⟩
  case st =>
   intro L a w' hj i hi
   obtain ⟨hun, o, ho, hall⟩ := mem_ready.1 hi
   have hoff := getD_off hun
   have hlt := (Array.getElem?_eq_some_iff.1 ho).1
   simp at hlt
   obtain ⟨B, s9, s10, s38, s39, s40, s41, s42, s43, s44, s45, s46, s47, s48, s49, s50, s51, rfl, hv⟩ := hj.fr
   have HV := Lib.hid hv
   have HJ := Lib.hid hj
   clear hv hj
   rcases (show i = 0 ∨ i = 1 ∨ i = 2 ∨ i = 3 ∨ i = 4 ∨ i = 5 ∨ i = 6 ∨ i = 7 ∨ i = 8 ∨ i = 9 ∨ i = 10 ∨ i = 11 ∨ i = 12 ∨ i = 13 ∨ i = 14 ∨ i = 15 ∨ i = 16 from by omega) with rfl | rfl | rfl | rfl | rfl | rfl | rfl | rfl | rfl | rfl | rfl | rfl | rfl | rfl | rfl | rfl | rfl
   ·simp at ho
    subst ho
    clear hall hi
    refine wpOp_step rfl (fun K' hK' => ?_)
    have HK := Lib.hid hK'
    clear hK'
    go_simp
    exact HK.out _ _ ⟨by simp [HJ.out.sz], ⟨_, _, _, _, _, _, _, _, _, _, _, _, _, _, _, _, _, rfl, fun _ => rfl, fun h0 => HV.out.k1 (getD_dn (by decide) h0), fun h0 => HV.out.k2 (getD_dn (by decide) h0), fun h0 => HV.out.k3 (getD_dn (by decide) h0), fun h0 => HV.out.k4 (getD_dn (by decide) h0), fun h0 => HV.out.k5 (getD_dn (by decide) h0), fun h0 => HV.out.k6 (getD_dn (by decide) h0), fun h0 => HV.out.k7 (getD_dn (by decide) h0), fun h0 => HV.out.k8 (getD_dn (by decide) h0), fun h0 => HV.out.k9 (getD_dn (by decide) h0), fun h0 => HV.out.k10 (getD_dn (by decide) h0), fun h0 => HV.out.k11 (getD_dn (by decide) h0), fun h0 => HV.out.k12 (getD_dn (by decide) h0), fun h0 => HV.out.k13 (getD_dn (by decide) h0), fun h0 => HV.out.k15 (getD_dn (by decide) h0), fun h0 => HV.out.k16 (getD_dn (by decide) h0), fun h0 => HV.out.g (getD_df (by decide) h0), fun h0 => HV.out.t (getD_dn (by decide) h0), fun h0 => HV.out.n (getD_dn (by decide) h0), fun h0 => HV.out.h (getD_dn (by decide) h0), HV.out.be, HV.out.sz, fun h => getD_up hun (HV.out.q (getD_dn (by decide) h)), fun h => getD_up hun (HV.out.q13 (getD_dn (by decide) h)), HV.out.c, fun h => getD_up hun (HV.out.q5 (getD_dn (by decide) h))⟩⟩
   ·simp at ho
    subst ho
    clear hall hi
    refine wpOp_step rfl (fun K' hK' => ?_)
    have HK := Lib.hid hK'
    clear hK'
    go_simp
    exact HK.out _ _ ⟨by simp [HJ.out.sz], ⟨_, _, _, _, _, _, _, _, _, _, _, _, _, _, _, _, _, rfl, fun h0 => HV.out.k0 (getD_dn (by decide) h0), fun _ => rfl, fun h0 => HV.out.k2 (getD_dn (by decide) h0), fun h0 => HV.out.k3 (getD_dn (by decide) h0), fun h0 => HV.out.k4 (getD_dn (by decide) h0), fun h0 => HV.out.k5 (getD_dn (by decide) h0), fun h0 => HV.out.k6 (getD_dn (by decide) h0), fun h0 => HV.out.k7 (getD_dn (by decide) h0), fun h0 => HV.out.k8 (getD_dn (by decide) h0), fun h0 => HV.out.k9 (getD_dn (by decide) h0), fun h0 => HV.out.k10 (getD_dn (by decide) h0), fun h0 => HV.out.k11 (getD_dn (by decide) h0), fun h0 => HV.out.k12 (getD_dn (by decide) h0), fun h0 => HV.out.k13 (getD_dn (by decide) h0), fun h0 => HV.out.k15 (getD_dn (by decide) h0), fun h0 => HV.out.k16 (getD_dn (by decide) h0), fun h0 => HV.out.g (getD_df (by decide) h0), fun h0 => HV.out.t (getD_dn (by decide) h0), fun h0 => HV.out.n (getD_dn (by decide) h0), fun h0 => HV.out.h (getD_dn (by decide) h0), HV.out.be, HV.out.sz, fun h => getD_up hun (HV.out.q (getD_dn (by decide) h)), fun h => getD_up hun (HV.out.q13 (getD_dn (by decide) h)), HV.out.c, fun h => getD_up hun (HV.out.q5 (getD_dn (by decide) h))⟩⟩
   ·simp at ho
    subst ho
    clear hall hi
    refine wpOp_step rfl (fun K' hK' => ?_)
    have HK := Lib.hid hK'
    clear hK'
    go_simp
    exact HK.out _ _ ⟨by simp [HJ.out.sz], ⟨_, _, _, _, _, _, _, _, _, _, _, _, _, _, _, _, _, rfl, fun h0 => HV.out.k0 (getD_dn (by decide) h0), fun h0 => HV.out.k1 (getD_dn (by decide) h0), fun _ => rfl, fun h0 => HV.out.k3 (getD_dn (by decide) h0), fun h0 => HV.out.k4 (getD_dn (by decide) h0), fun h0 => HV.out.k5 (getD_dn (by decide) h0), fun h0 => HV.out.k6 (getD_dn (by decide) h0), fun h0 => HV.out.k7 (getD_dn (by decide) h0), fun h0 => HV.out.k8 (getD_dn (by decide) h0), fun h0 => HV.out.k9 (getD_dn (by decide) h0), fun h0 => HV.out.k10 (getD_dn (by decide) h0), fun h0 => HV.out.k11 (getD_dn (by decide) h0), fun h0 => HV.out.k12 (getD_dn (by decide) h0), fun h0 => HV.out.k13 (getD_dn (by decide) h0), fun h0 => HV.out.k15 (getD_dn (by decide) h0), fun h0 => HV.out.k16 (getD_dn (by decide) h0), fun h0 => HV.out.g (getD_df (by decide) h0), fun h0 => HV.out.t (getD_dn (by decide) h0), fun h0 => HV.out.n (getD_dn (by decide) h0), fun h0 => HV.out.h (getD_dn (by decide) h0), HV.out.be, HV.out.sz, fun h => getD_up hun (HV.out.q (getD_dn (by decide) h)), fun h => getD_up hun (HV.out.q13 (getD_dn (by decide) h)), HV.out.c, fun h => getD_up hun (HV.out.q5 (getD_dn (by decide) h))⟩⟩
   ·simp at ho
    subst ho
    clear hall hi
    refine wpOp_step rfl (fun K' hK' => ?_)
    have HK := Lib.hid hK'
    clear hK'
    go_simp
    exact HK.out _ _ ⟨by simp [HJ.out.sz], ⟨_, _, _, _, _, _, _, _, _, _, _, _, _, _, _, _, _, rfl, fun h0 => HV.out.k0 (getD_dn (by decide) h0), fun h0 => HV.out.k1 (getD_dn (by decide) h0), fun h0 => HV.out.k2 (getD_dn (by decide) h0), fun _ => rfl, fun h0 => HV.out.k4 (getD_dn (by decide) h0), fun h0 => HV.out.k5 (getD_dn (by decide) h0), fun h0 => HV.out.k6 (getD_dn (by decide) h0), fun h0 => HV.out.k7 (getD_dn (by decide) h0), fun h0 => HV.out.k8 (getD_dn (by decide) h0), fun h0 => HV.out.k9 (getD_dn (by decide) h0), fun h0 => HV.out.k10 (getD_dn (by decide) h0), fun h0 => HV.out.k11 (getD_dn (by decide) h0), fun h0 => HV.out.k12 (getD_dn (by decide) h0), fun h0 => HV.out.k13 (getD_dn (by decide) h0), fun h0 => HV.out.k15 (getD_dn (by decide) h0), fun h0 => HV.out.k16 (getD_dn (by decide) h0), fun h0 => HV.out.g (getD_df (by decide) h0), fun h0 => HV.out.t (getD_dn (by decide) h0), fun h0 => HV.out.n (getD_dn (by decide) h0), fun h0 => HV.out.h (getD_dn (by decide) h0), HV.out.be, HV.out.sz, fun h => getD_up hun (HV.out.q (getD_dn (by decide) h)), fun h => getD_up hun (HV.out.q13 (getD_dn (by decide) h)), HV.out.c, fun h => getD_up hun (HV.out.q5 (getD_dn (by decide) h))⟩⟩
   ·simp at ho
    subst ho
    have h3x : L.getD 3 false = true := hall { on := 3, ground := Ground.data } (by simp) (by decide)
    have H3 := Lib.hid h3x
    clear hall hi h3x
    have e0 := HV.out.k3 H3.out
    subst e0
    obtain ⟨c0, c2⟩ := HV.out.c
    refine wpOp_step rfl (fun K' hK' => ?_)
    have HK := Lib.hid hK'
    clear hK'
    go_simp
    exact HK.out _ _ ⟨by simp [HJ.out.sz], ⟨_, _, _, _, _, _, _, _, _, _, _, _, _, _, _, _, _, rfl, fun h0 => HV.out.k0 (getD_dn (by decide) h0), fun h0 => HV.out.k1 (getD_dn (by decide) h0), fun h0 => HV.out.k2 (getD_dn (by decide) h0), fun h0 => HV.out.k3 (getD_dn (by decide) h0), fun _ => rfl, fun h0 => HV.out.k5 (getD_dn (by decide) h0), fun h0 => HV.out.k6 (getD_dn (by decide) h0), fun h0 => HV.out.k7 (getD_dn (by decide) h0), fun h0 => HV.out.k8 (getD_dn (by decide) h0), fun h0 => HV.out.k9 (getD_dn (by decide) h0), fun h0 => HV.out.k10 (getD_dn (by decide) h0), fun h0 => HV.out.k11 (getD_dn (by decide) h0), fun h0 => HV.out.k12 (getD_dn (by decide) h0), fun h0 => HV.out.k13 (getD_dn (by decide) h0), fun h0 => HV.out.k15 (getD_dn (by decide) h0), fun h0 => HV.out.k16 (getD_dn (by decide) h0), fun h0 => HV.out.g (getD_df (by decide) h0), fun h0 => HV.out.t (getD_dn (by decide) h0), fun h0 => HV.out.n (getD_dn (by decide) h0), fun h0 => HV.out.h (getD_dn (by decide) h0), HV.out.be, HV.out.sz, fun h => getD_up hun (HV.out.q (getD_dn (by decide) h)), fun h => getD_up hun (HV.out.q13 (getD_dn (by decide) h)), HV.out.c, fun h => getD_up hun (HV.out.q5 (getD_dn (by decide) h))⟩⟩
   ·simp at ho
    subst ho
    have h2x : L.getD 2 false = true := hall { on := 2, ground := Ground.data } (by simp) (by decide)
    have h4x : L.getD 4 false = true := hall { on := 4, ground := Ground.data } (by simp) (by decide)
    have H2 := Lib.hid h2x
    have H4 := Lib.hid h4x
    clear hall hi h2x h4x
    have e0 := HV.out.k2 H2.out
    subst e0
    have e1 := HV.out.k4 H4.out
    subst e1
    have h14 : L.getD 14 false = false := (off_or_on L 14).resolve_right (fun h => not_on hoff (HV.out.q5 (HV.out.q h)))
    refine wpOp_step rfl (fun K' hK' => ?_)
    have HK := Lib.hid hK'
    clear hK'
    go_simp
    refine (HCA.out _ (HV.out.g h14)).mono ?_
    rintro e wn ⟨rfl, hg, bn, hc⟩
    exact HK.out _ _ ⟨by simp [HJ.out.sz], ⟨_, _, _, _, _, _, _, _, _, _, _, _, _, _, _, _, _, rfl, fun h0 => HV.out.k0 (getD_dn (by decide) h0), fun h0 => HV.out.k1 (getD_dn (by decide) h0), fun h0 => HV.out.k2 (getD_dn (by decide) h0), fun h0 => HV.out.k3 (getD_dn (by decide) h0), fun h0 => HV.out.k4 (getD_dn (by decide) h0), fun _ => rfl, fun h0 => HV.out.k6 (getD_dn (by decide) h0), fun h0 => HV.out.k7 (getD_dn (by decide) h0), fun h0 => HV.out.k8 (getD_dn (by decide) h0), fun h0 => HV.out.k9 (getD_dn (by decide) h0), fun h0 => HV.out.k10 (getD_dn (by decide) h0), fun h0 => HV.out.k11 (getD_dn (by decide) h0), fun h0 => HV.out.k12 (getD_dn (by decide) h0), fun h0 => HV.out.k13 (getD_dn (by decide) h0), fun h0 => HV.out.k15 (getD_dn (by decide) h0), fun h0 => HV.out.k16 (getD_dn (by decide) h0), fun _ => hg, fun h => (bn.block _ (Array.getElem?_eq_some_iff.1 (HV.out.t (getD_dn (by decide) h))).1).trans (HV.out.t (getD_dn (by decide) h)), fun h0 => HV.out.n (getD_dn (by decide) h0), fun h => (not_on h14 (getD_dn (by decide) h)).elim, hg.bel, hg.lt, fun h => getD_up hun (HV.out.q (getD_dn (by decide) h)), fun h => getD_up hun (HV.out.q13 (getD_dn (by decide) h)), hc, fun _ => getD_set_same hun⟩⟩
   ·simp at ho
    subst ho
    clear hall hi
    refine wpOp_step rfl (fun K' hK' => ?_)
    have HK := Lib.hid hK'
    clear hK'
    go_simp
    exact HK.out _ _ ⟨by simp [HJ.out.sz], ⟨_, _, _, _, _, _, _, _, _, _, _, _, _, _, _, _, _, rfl, fun h0 => HV.out.k0 (getD_dn (by decide) h0), fun h0 => HV.out.k1 (getD_dn (by decide) h0), fun h0 => HV.out.k2 (getD_dn (by decide) h0), fun h0 => HV.out.k3 (getD_dn (by decide) h0), fun h0 => HV.out.k4 (getD_dn (by decide) h0), fun h0 => HV.out.k5 (getD_dn (by decide) h0), fun _ => rfl, fun h0 => HV.out.k7 (getD_dn (by decide) h0), fun h0 => HV.out.k8 (getD_dn (by decide) h0), fun h0 => HV.out.k9 (getD_dn (by decide) h0), fun h0 => HV.out.k10 (getD_dn (by decide) h0), fun h0 => HV.out.k11 (getD_dn (by decide) h0), fun h0 => HV.out.k12 (getD_dn (by decide) h0), fun h0 => HV.out.k13 (getD_dn (by decide) h0), fun h0 => HV.out.k15 (getD_dn (by decide) h0), fun h0 => HV.out.k16 (getD_dn (by decide) h0), fun h0 => HV.out.g (getD_df (by decide) h0), fun h0 => HV.out.t (getD_dn (by decide) h0), fun h0 => HV.out.n (getD_dn (by decide) h0), fun h0 => HV.out.h (getD_dn (by decide) h0), HV.out.be, HV.out.sz, fun h => getD_up hun (HV.out.q (getD_dn (by decide) h)), fun h => getD_up hun (HV.out.q13 (getD_dn (by decide) h)), HV.out.c, fun h => getD_up hun (HV.out.q5 (getD_dn (by decide) h))⟩⟩
   ·simp at ho
    subst ho
    have h6x : L.getD 6 false = true := hall { on := 6, ground := Ground.data } (by simp) (by decide)
    have H6 := Lib.hid h6x
    clear hall hi h6x
    have e0 := HV.out.k6 H6.out
    subst e0
    obtain ⟨c0, c2⟩ := HV.out.c
    refine wpOp_step rfl (fun K' hK' => ?_)
    have HK := Lib.hid hK'
    clear hK'
    go_simp
    exact HK.out _ _ ⟨by simp [HJ.out.sz], ⟨_, _, _, _, _, _, _, _, _, _, _, _, _, _, _, _, _, rfl, fun h0 => HV.out.k0 (getD_dn (by decide) h0), fun h0 => HV.out.k1 (getD_dn (by decide) h0), fun h0 => HV.out.k2 (getD_dn (by decide) h0), fun h0 => HV.out.k3 (getD_dn (by decide) h0), fun h0 => HV.out.k4 (getD_dn (by decide) h0), fun h0 => HV.out.k5 (getD_dn (by decide) h0), fun h0 => HV.out.k6 (getD_dn (by decide) h0), fun _ => rfl, fun h0 => HV.out.k8 (getD_dn (by decide) h0), fun h0 => HV.out.k9 (getD_dn (by decide) h0), fun h0 => HV.out.k10 (getD_dn (by decide) h0), fun h0 => HV.out.k11 (getD_dn (by decide) h0), fun h0 => HV.out.k12 (getD_dn (by decide) h0), fun h0 => HV.out.k13 (getD_dn (by decide) h0), fun h0 => HV.out.k15 (getD_dn (by decide) h0), fun h0 => HV.out.k16 (getD_dn (by decide) h0), fun h0 => HV.out.g (getD_df (by decide) h0), fun h0 => HV.out.t (getD_dn (by decide) h0), fun h0 => HV.out.n (getD_dn (by decide) h0), fun h0 => HV.out.h (getD_dn (by decide) h0), HV.out.be, HV.out.sz, fun h => getD_up hun (HV.out.q (getD_dn (by decide) h)), fun h => getD_up hun (HV.out.q13 (getD_dn (by decide) h)), HV.out.c, fun h => getD_up hun (HV.out.q5 (getD_dn (by decide) h))⟩⟩
   ·simp at ho
    subst ho
    clear hall hi
    refine wpOp_step rfl (fun K' hK' => ?_)
    have HK := Lib.hid hK'
    clear hK'
    go_simp
    exact HK.out _ _ ⟨by simp [HJ.out.sz], ⟨_, _, _, _, _, _, _, _, _, _, _, _, _, _, _, _, _, rfl, fun h0 => HV.out.k0 (getD_dn (by decide) h0), fun h0 => HV.out.k1 (getD_dn (by decide) h0), fun h0 => HV.out.k2 (getD_dn (by decide) h0), fun h0 => HV.out.k3 (getD_dn (by decide) h0), fun h0 => HV.out.k4 (getD_dn (by decide) h0), fun h0 => HV.out.k5 (getD_dn (by decide) h0), fun h0 => HV.out.k6 (getD_dn (by decide) h0), fun h0 => HV.out.k7 (getD_dn (by decide) h0), fun _ => rfl, fun h0 => HV.out.k9 (getD_dn (by decide) h0), fun h0 => HV.out.k10 (getD_dn (by decide) h0), fun h0 => HV.out.k11 (getD_dn (by decide) h0), fun h0 => HV.out.k12 (getD_dn (by decide) h0), fun h0 => HV.out.k13 (getD_dn (by decide) h0), fun h0 => HV.out.k15 (getD_dn (by decide) h0), fun h0 => HV.out.k16 (getD_dn (by decide) h0), fun h0 => HV.out.g (getD_df (by decide) h0), fun h0 => HV.out.t (getD_dn (by decide) h0), fun h0 => HV.out.n (getD_dn (by decide) h0), fun h0 => HV.out.h (getD_dn (by decide) h0), HV.out.be, HV.out.sz, fun h => getD_up hun (HV.out.q (getD_dn (by decide) h)), fun h => getD_up hun (HV.out.q13 (getD_dn (by decide) h)), HV.out.c, fun h => getD_up hun (HV.out.q5 (getD_dn (by decide) h))⟩⟩
   ·simp at ho
    subst ho
    have h8x : L.getD 8 false = true := hall { on := 8, ground := Ground.data } (by simp) (by decide)
    have H8 := Lib.hid h8x
    clear hall hi h8x
    have e0 := HV.out.k8 H8.out
    subst e0
    obtain ⟨c0, c2⟩ := HV.out.c
    refine wpOp_step rfl (fun K' hK' => ?_)
    have HK := Lib.hid hK'
    clear hK'
    go_simp
    exact HK.out _ _ ⟨by simp [HJ.out.sz], ⟨_, _, _, _, _, _, _, _, _, _, _, _, _, _, _, _, _, rfl, fun h0 => HV.out.k0 (getD_dn (by decide) h0), fun h0 => HV.out.k1 (getD_dn (by decide) h0), fun h0 => HV.out.k2 (getD_dn (by decide) h0), fun h0 => HV.out.k3 (getD_dn (by decide) h0), fun h0 => HV.out.k4 (getD_dn (by decide) h0), fun h0 => HV.out.k5 (getD_dn (by decide) h0), fun h0 => HV.out.k6 (getD_dn (by decide) h0), fun h0 => HV.out.k7 (getD_dn (by decide) h0), fun h0 => HV.out.k8 (getD_dn (by decide) h0), fun _ => rfl, fun h0 => HV.out.k10 (getD_dn (by decide) h0), fun h0 => HV.out.k11 (getD_dn (by decide) h0), fun h0 => HV.out.k12 (getD_dn (by decide) h0), fun h0 => HV.out.k13 (getD_dn (by decide) h0), fun h0 => HV.out.k15 (getD_dn (by decide) h0), fun h0 => HV.out.k16 (getD_dn (by decide) h0), fun h0 => HV.out.g (getD_df (by decide) h0), fun h0 => HV.out.t (getD_dn (by decide) h0), fun h0 => HV.out.n (getD_dn (by decide) h0), fun h0 => HV.out.h (getD_dn (by decide) h0), HV.out.be, HV.out.sz, fun h => getD_up hun (HV.out.q (getD_dn (by decide) h)), fun h => getD_up hun (HV.out.q13 (getD_dn (by decide) h)), HV.out.c, fun h => getD_up hun (HV.out.q5 (getD_dn (by decide) h))⟩⟩
   ·simp at ho
    subst ho
    clear hall hi
    refine wpOp_step rfl (fun K' hK' => ?_)
    have HK := Lib.hid hK'
    clear hK'
    go_simp
    exact HK.out _ _ ⟨by simp [HJ.out.sz], ⟨_, _, _, _, _, _, _, _, _, _, _, _, _, _, _, _, _, rfl, fun h0 => HV.out.k0 (getD_dn (by decide) h0), fun h0 => HV.out.k1 (getD_dn (by decide) h0), fun h0 => HV.out.k2 (getD_dn (by decide) h0), fun h0 => HV.out.k3 (getD_dn (by decide) h0), fun h0 => HV.out.k4 (getD_dn (by decide) h0), fun h0 => HV.out.k5 (getD_dn (by decide) h0), fun h0 => HV.out.k6 (getD_dn (by decide) h0), fun h0 => HV.out.k7 (getD_dn (by decide) h0), fun h0 => HV.out.k8 (getD_dn (by decide) h0), fun h0 => HV.out.k9 (getD_dn (by decide) h0), fun _ => rfl, fun h0 => HV.out.k11 (getD_dn (by decide) h0), fun h0 => HV.out.k12 (getD_dn (by decide) h0), fun h0 => HV.out.k13 (getD_dn (by decide) h0), fun h0 => HV.out.k15 (getD_dn (by decide) h0), fun h0 => HV.out.k16 (getD_dn (by decide) h0), fun h0 => HV.out.g (getD_df (by decide) h0), fun h0 => HV.out.t (getD_dn (by decide) h0), fun h0 => HV.out.n (getD_dn (by decide) h0), fun h0 => HV.out.h (getD_dn (by decide) h0), HV.out.be, HV.out.sz, fun h => getD_up hun (HV.out.q (getD_dn (by decide) h)), fun h => getD_up hun (HV.out.q13 (getD_dn (by decide) h)), HV.out.c, fun h => getD_up hun (HV.out.q5 (getD_dn (by decide) h))⟩⟩
   ·simp at ho
    subst ho
    have h10x : L.getD 10 false = true := hall { on := 10, ground := Ground.data } (by simp) (by decide)
    have H10 := Lib.hid h10x
    clear hall hi h10x
    have e0 := HV.out.k10 H10.out
    subst e0
    refine wpOp_step rfl (fun K' hK' => ?_)
    have HK := Lib.hid hK'
    clear hK'
    go_simp
    exact HK.out _ _ ⟨by simp [HJ.out.sz], ⟨_, _, _, _, _, _, _, _, _, _, _, _, _, _, _, _, _, rfl, fun h0 => HV.out.k0 (getD_dn (by decide) h0), fun h0 => HV.out.k1 (getD_dn (by decide) h0), fun h0 => HV.out.k2 (getD_dn (by decide) h0), fun h0 => HV.out.k3 (getD_dn (by decide) h0), fun h0 => HV.out.k4 (getD_dn (by decide) h0), fun h0 => HV.out.k5 (getD_dn (by decide) h0), fun h0 => HV.out.k6 (getD_dn (by decide) h0), fun h0 => HV.out.k7 (getD_dn (by decide) h0), fun h0 => HV.out.k8 (getD_dn (by decide) h0), fun h0 => HV.out.k9 (getD_dn (by decide) h0), fun h0 => HV.out.k10 (getD_dn (by decide) h0), fun _ => rfl, fun h0 => HV.out.k12 (getD_dn (by decide) h0), fun h0 => HV.out.k13 (getD_dn (by decide) h0), fun h0 => HV.out.k15 (getD_dn (by decide) h0), fun h0 => HV.out.k16 (getD_dn (by decide) h0), fun h0 => HV.out.g (getD_df (by decide) h0), fun h0 => HV.out.t (getD_dn (by decide) h0), fun h0 => HV.out.n (getD_dn (by decide) h0), fun h0 => HV.out.h (getD_dn (by decide) h0), HV.out.be, HV.out.sz, fun h => getD_up hun (HV.out.q (getD_dn (by decide) h)), fun h => getD_up hun (HV.out.q13 (getD_dn (by decide) h)), HV.out.c, fun h => getD_up hun (HV.out.q5 (getD_dn (by decide) h))⟩⟩
   ·simp at ho
    subst ho
    have h11x : L.getD 11 false = true := hall { on := 11, ground := Ground.data } (by simp) (by decide)
    have H11 := Lib.hid h11x
    clear hall hi h11x
    have e0 := HV.out.k11 H11.out
    subst e0
    have h14 : L.getD 14 false = false := (off_or_on L 14).resolve_right (fun h => not_on hoff (HV.out.q13 (HV.out.q h)))
    have hg := (HV.out.g h14).below ((Below.refl _ w').alloc (Nat.le_refl _) (.cells #[.string ⟨#[97, 109, 111, 117, 110, 116]⟩, .string ch] 57))
    refine wpOp_step rfl (fun K' hK' => ?_)
    have HK := Lib.hid hK'
    clear hK'
    go_simp
    exact HK.out _ _ ⟨by simp [HJ.out.sz], ⟨w'.heap.size, _, _, _, _, _, _, _, _, _, _, _, _, _, _, _, _, rfl, fun h0 => HV.out.k0 (getD_dn (by decide) h0), fun h0 => HV.out.k1 (getD_dn (by decide) h0), fun h0 => HV.out.k2 (getD_dn (by decide) h0), fun h0 => HV.out.k3 (getD_dn (by decide) h0), fun h0 => HV.out.k4 (getD_dn (by decide) h0), fun h0 => HV.out.k5 (getD_dn (by decide) h0), fun h0 => HV.out.k6 (getD_dn (by decide) h0), fun h0 => HV.out.k7 (getD_dn (by decide) h0), fun h0 => HV.out.k8 (getD_dn (by decide) h0), fun h0 => HV.out.k9 (getD_dn (by decide) h0), fun h0 => HV.out.k10 (getD_dn (by decide) h0), fun h0 => HV.out.k11 (getD_dn (by decide) h0), fun _ => rfl, fun h => (not_on hoff (HV.out.q13 (getD_dn (by decide) h))).elim, fun h0 => HV.out.k15 (getD_dn (by decide) h0), fun h0 => HV.out.k16 (getD_dn (by decide) h0), fun _ => hg, fun _ => heap_alloc_new _ _, fun _ => HV.out.sz, fun h => (not_on h14 (getD_dn (by decide) h)).elim, hg.bel, hg.lt, fun h => getD_up hun (HV.out.q (getD_dn (by decide) h)), fun _ => getD_set_same hun, hg.cells, fun h => getD_up hun (HV.out.q5 (getD_dn (by decide) h))⟩⟩
   ·simp at ho
    subst ho
    have h0x : L.getD 0 false = true := hall { on := 0, ground := Ground.data } (by simp) (by decide)
    have h1x : L.getD 1 false = true := hall { on := 1, ground := Ground.data } (by simp) (by decide)
    have h5x : L.getD 5 false = true := hall { on := 5, ground := Ground.data } (by simp) (by decide)
    have h7x : L.getD 7 false = true := hall { on := 7, ground := Ground.data } (by simp) (by decide)
    have h9x : L.getD 9 false = true := hall { on := 9, ground := Ground.data } (by simp) (by decide)
    have h12x : L.getD 12 false = true := hall { on := 12, ground := Ground.data } (by simp) (by decide)
    have H0 := Lib.hid h0x
    have H1 := Lib.hid h1x
    have H5 := Lib.hid h5x
    have H7 := Lib.hid h7x
    have H9 := Lib.hid h9x
    have H12 := Lib.hid h12x
    clear hall hi h0x h1x h5x h7x h9x h12x
    have e0 := HV.out.k0 H0.out
    subst e0
    have e1 := HV.out.k1 H1.out
    subst e1
    have e2 := HV.out.k5 H5.out
    subst e2
    have e3 := HV.out.k7 H7.out
    subst e3
    have e4 := HV.out.k9 H9.out
    subst e4
    have e5 := HV.out.k12 H12.out
    subst e5
    refine wpOp_step rfl (fun K' hK' => ?_)
    have HK := Lib.hid hK'
    clear hK'
    go_simp
    exact HK.out _ _ ⟨by simp [HJ.out.sz], ⟨_, _, _, _, _, _, _, _, _, _, _, _, _, _, _, _, _, rfl, fun h0 => HV.out.k0 (getD_dn (by decide) h0), fun h0 => HV.out.k1 (getD_dn (by decide) h0), fun h0 => HV.out.k2 (getD_dn (by decide) h0), fun h0 => HV.out.k3 (getD_dn (by decide) h0), fun h0 => HV.out.k4 (getD_dn (by decide) h0), fun h0 => HV.out.k5 (getD_dn (by decide) h0), fun h0 => HV.out.k6 (getD_dn (by decide) h0), fun h0 => HV.out.k7 (getD_dn (by decide) h0), fun h0 => HV.out.k8 (getD_dn (by decide) h0), fun h0 => HV.out.k9 (getD_dn (by decide) h0), fun h0 => HV.out.k10 (getD_dn (by decide) h0), fun h0 => HV.out.k11 (getD_dn (by decide) h0), fun h0 => HV.out.k12 (getD_dn (by decide) h0), fun _ => rfl, fun h0 => HV.out.k15 (getD_dn (by decide) h0), fun h0 => HV.out.k16 (getD_dn (by decide) h0), fun h0 => HV.out.g (getD_df (by decide) h0), fun h0 => HV.out.t (getD_dn (by decide) h0), fun h0 => HV.out.n (getD_dn (by decide) h0), fun h0 => HV.out.h (getD_dn (by decide) h0), HV.out.be, HV.out.sz, fun _ => getD_set_same hun, fun _ => getD_up hun H12.out, HV.out.c, fun _ => getD_up hun H5.out⟩⟩
   ·simp at ho
    subst ho
    have h13x : L.getD 13 false = true := hall { on := 13, ground := Ground.data } (by simp) (by decide)
    have H13 := Lib.hid h13x
    clear hall hi h13x
    have e0 := HV.out.k13 H13.out
    subst e0
    have HG := Lib.hid (HV.out.g hoff)
    have HN := Lib.hid HG.out.rb
    have n0 := Lib.cell_of_heap HN.out 0; have z0 := Lib.frozen_of_heap HN.out 0
    have n1 := Lib.cell_of_heap HN.out 1; have z1 := Lib.frozen_of_heap HN.out 1
    have n2 := Lib.cell_of_heap HN.out 2; have z2 := Lib.frozen_of_heap HN.out 2
    have n3 := Lib.cell_of_heap HN.out 3; have z3 := Lib.frozen_of_heap HN.out 3
    have n4 := Lib.cell_of_heap HN.out 4; have z4 := Lib.frozen_of_heap HN.out 4
    have n5 := Lib.cell_of_heap HN.out 5; have z5 := Lib.frozen_of_heap HN.out 5
    have n6 := Lib.cell_of_heap HN.out 6; have z6 := Lib.frozen_of_heap HN.out 6
    simp [effZero] at n0 n1 n2 n3 n4 n5 n6
    refine wpOp_step rfl (fun K' hK' => ?_)
    have HK := Lib.hid hK'
    clear hK'
    go_simp
    exact HK.out _ _ ⟨by simp [HJ.out.sz], ⟨_, _, _, _, _, _, _, _, _, _, _, _, _, _, _, _, _, rfl, fun h0 => HV.out.k0 (getD_dn (by decide) h0), fun h0 => HV.out.k1 (getD_dn (by decide) h0), fun h0 => HV.out.k2 (getD_dn (by decide) h0), fun h0 => HV.out.k3 (getD_dn (by decide) h0), fun h0 => HV.out.k4 (getD_dn (by decide) h0), fun h0 => HV.out.k5 (getD_dn (by decide) h0), fun h0 => HV.out.k6 (getD_dn (by decide) h0), fun h0 => HV.out.k7 (getD_dn (by decide) h0), fun h0 => HV.out.k8 (getD_dn (by decide) h0), fun h0 => HV.out.k9 (getD_dn (by decide) h0), fun h0 => HV.out.k10 (getD_dn (by decide) h0), fun h0 => HV.out.k11 (getD_dn (by decide) h0), fun h0 => HV.out.k12 (getD_dn (by decide) h0), fun h0 => HV.out.k13 (getD_dn (by decide) h0), fun h0 => HV.out.k15 (getD_dn (by decide) h0), fun h0 => HV.out.k16 (getD_dn (by decide) h0), fun h => (not_on h (getD_set_same hun)).elim, fun h => (far7 (Nat.ne_of_gt (HV.out.n (getD_dn (by decide) h))) _ _ _ _ _ _ _).trans (HV.out.t (getD_dn (by decide) h)), fun h0 => HV.out.n (getD_dn (by decide) h0), fun _ => set7 HN.out _ _ _ _ _ _ _, below7 (by omega) HG.out.bel _ _ _ _ _ _ _, by simp [World.setCell, HG.out.lt], fun _ => getD_up hun H13.out, fun h => getD_up hun (HV.out.q13 (getD_dn (by decide) h)), ⟨(Lib.cell_of_heap ((far7 (by omega) _ _ _ _ _ _ _).trans HG.out.ib) 0), (Lib.cell_of_heap ((far7 (by omega) _ _ _ _ _ _ _).trans HG.out.ib) 2)⟩, fun h => getD_up hun (HV.out.q5 (getD_dn (by decide) h))⟩⟩
   ·simp at ho
    subst ho
    clear hall hi
    refine wpOp_step rfl (fun K' hK' => ?_)
    have HK := Lib.hid hK'
    clear hK'
    go_simp
    exact HK.out _ _ ⟨by simp [HJ.out.sz], ⟨_, _, _, _, _, _, _, _, _, _, _, _, _, _, _, _, _, rfl, fun h0 => HV.out.k0 (getD_dn (by decide) h0), fun h0 => HV.out.k1 (getD_dn (by decide) h0), fun h0 => HV.out.k2 (getD_dn (by decide) h0), fun h0 => HV.out.k3 (getD_dn (by decide) h0), fun h0 => HV.out.k4 (getD_dn (by decide) h0), fun h0 => HV.out.k5 (getD_dn (by decide) h0), fun h0 => HV.out.k6 (getD_dn (by decide) h0), fun h0 => HV.out.k7 (getD_dn (by decide) h0), fun h0 => HV.out.k8 (getD_dn (by decide) h0), fun h0 => HV.out.k9 (getD_dn (by decide) h0), fun h0 => HV.out.k10 (getD_dn (by decide) h0), fun h0 => HV.out.k11 (getD_dn (by decide) h0), fun h0 => HV.out.k12 (getD_dn (by decide) h0), fun h0 => HV.out.k13 (getD_dn (by decide) h0), fun _ => rfl, fun h0 => HV.out.k16 (getD_dn (by decide) h0), fun h0 => HV.out.g (getD_df (by decide) h0), fun h0 => HV.out.t (getD_dn (by decide) h0), fun h0 => HV.out.n (getD_dn (by decide) h0), fun h0 => HV.out.h (getD_dn (by decide) h0), HV.out.be, HV.out.sz, fun h => getD_up hun (HV.out.q (getD_dn (by decide) h)), fun h => getD_up hun (HV.out.q13 (getD_dn (by decide) h)), HV.out.c, fun h => getD_up hun (HV.out.q5 (getD_dn (by decide) h))⟩⟩
   ·simp at ho
    subst ho
    clear hall hi
    refine wpOp_step rfl (fun K' hK' => ?_)
    have HK := Lib.hid hK'
    clear hK'
    go_simp
    exact HK.out _ _ ⟨by simp [HJ.out.sz], ⟨_, _, _, _, _, _, _, _, _, _, _, _, _, _, _, _, _, rfl, fun h0 => HV.out.k0 (getD_dn (by decide) h0), fun h0 => HV.out.k1 (getD_dn (by decide) h0), fun h0 => HV.out.k2 (getD_dn (by decide) h0), fun h0 => HV.out.k3 (getD_dn (by decide) h0), fun h0 => HV.out.k4 (getD_dn (by decide) h0), fun h0 => HV.out.k5 (getD_dn (by decide) h0), fun h0 => HV.out.k6 (getD_dn (by decide) h0), fun h0 => HV.out.k7 (getD_dn (by decide) h0), fun h0 => HV.out.k8 (getD_dn (by decide) h0), fun h0 => HV.out.k9 (getD_dn (by decide) h0), fun h0 => HV.out.k10 (getD_dn (by decide) h0), fun h0 => HV.out.k11 (getD_dn (by decide) h0), fun h0 => HV.out.k12 (getD_dn (by decide) h0), fun h0 => HV.out.k13 (getD_dn (by decide) h0), fun h0 => HV.out.k15 (getD_dn (by decide) h0), fun _ => rfl, fun h0 => HV.out.g (getD_df (by decide) h0), fun h0 => HV.out.t (getD_dn (by decide) h0), fun h0 => HV.out.n (getD_dn (by decide) h0), fun h0 => HV.out.h (getD_dn (by decide) h0), HV.out.be, HV.out.sz, fun h => getD_up hun (HV.out.q (getD_dn (by decide) h)), fun h => getD_up hun (HV.out.q13 (getD_dn (by decide) h)), HV.out.c, fun h => getD_up hun (HV.out.q5 (getD_dn (by decide) h))⟩⟩
end Go.Proofs.YtpgjmdggblnfkaaGreatDoor
