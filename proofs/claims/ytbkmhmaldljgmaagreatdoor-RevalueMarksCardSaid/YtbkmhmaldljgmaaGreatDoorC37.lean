/-
  revalue.check, Market, Unrealized where all is in order.
-/
import Derived.Test.YtbkmhmaldljgmaaGreatDoorC36
import Derived.Test.YtbkmhmaldljgmaaGreatDoorC14
import Derived.Test.YtbkmhmaldljgmaaGreatDoorC29
import Derived.Test.YtbkmhmaldljgmaaGreatDoorC17
set_option linter.unusedVariables false
set_option linter.unusedSimpArgs false
set_option maxHeartbeats 16000000
set_option maxRecDepth 100000
namespace Go.Proofs.YtbkmhmaldljgmaaGreatDoor
open Go.RowKit Tr Go.Shelf
def stpC (st : Int) : Array Value := #[.slice none 0 0, .slice none 0 0, .slice none 0 0, .slice none 0 0, .slice none 0 0, .slice none 0 0, .int .i64 st]
structure RvC (w : World) (F : Value) (A : Value) (i : Inst) (d st : Int) : Prop where
 v : ∀ W, Below w.heap.size w W → Calls Tryz.prog 110 #[F] W fun e w' => e = .returned (.int .i64 0) ∧ Below W.heap.size W w'
 l : ∀ W, Below w.heap.size w W → Calls Tryz.prog 111 #[A] W fun e w' => e = .returned (.int .i64 0) ∧ Below W.heap.size W w'
 i : ∀ W, Below w.heap.size w W → Calls Tryz.prog 24 #[i.enc] W fun e w' => e = .returned (.int .i64 0) ∧ Below W.heap.size W w'
 d : okDay d
 s : 0 ≤ st
theorem RvC.below {w W : World} {F A : Value} {i : Inst} {d st : Int} (h : RvC w F A i d st) (hb : Below w.heap.size w W) : RvC W F A i d st :=
 ⟨fun X hx => h.v X (hb.trans (hx.mono hb.size)), fun X hx => h.l X (hb.trans (hx.mono hb.size)), fun X hx => h.i X (hb.trans (hx.mono hb.size)), h.d, h.s⟩
theorem scellsV {W : World} {b : Nat} {st : Int} (h : W.heap[b]? = some (.cells (stpC st) 71 (0, 0))) : W.cell? ⟨b, 0, none⟩ = some (.slice none 0 0) ∧ W.cell? ⟨b, 1, none⟩ = some (.slice none 0 0) ∧ W.cell? ⟨b, 2, none⟩ = some (.slice none 0 0) ∧ W.cell? ⟨b, 3, none⟩ = some (.slice none 0 0) ∧ W.cell? ⟨b, 4, none⟩ = some (.slice none 0 0) ∧ W.cell? ⟨b, 5, none⟩ = some (.slice none 0 0) ∧ W.cell? ⟨b, 6, none⟩ = some (.int .i64 st) :=
 ⟨(Lib.cell_of_heap h 0).trans rfl, (Lib.cell_of_heap h 1).trans rfl, (Lib.cell_of_heap h 2).trans rfl, (Lib.cell_of_heap h 3).trans rfl, (Lib.cell_of_heap h 4).trans rfl, (Lib.cell_of_heap h 5).trans rfl, (Lib.cell_of_heap h 6).trans rfl⟩
structure RvB (w : World) (i : Inst) (st : Int) (W : World) : Prop where
 s : W.heap[w.heap.size]? = some (.cells (stpC st) 71 (0, 0))
 i : W.heap[w.heap.size + 1]? = some (.cells i.cells 27 (0, 0))
 b : Below w.heap.size w W
theorem RvB.below {w W W' : World} {i : Inst} {st : Int} (h : RvB w i st W) (hb : Below W.heap.size W W') : RvB w i st W' := ⟨bkeepK hb h.s, bkeepK hb h.i, h.b.trans (hb.mono h.b.size)⟩
theorem RvB.start (w : World) (i : Inst) (st : Int) : ∃ W0, (w.alloc (.cells (stpC st) 71)).alloc (.cells i.cells 27) = W0 ∧ RvB w i st W0 := by
 obtain ⟨W0, hW0, hB0, hz, k0, k1⟩ := box2 w (.cells (stpC st) 71) (.cells i.cells 27)
 exact ⟨W0, hW0.symm, k0, k1, hB0⟩
theorem rvCheck_ok (F A : Value) (hF : ∃ B k c, F = .slice B k c) (hA : ∃ B k c, A = .slice B k c) (i : Inst) (d st : Int) (w : World) (h : RvC w F A i d st) :
 Calls Tryz.prog 66 #[.agg (stpC st), F, i.enc, A, .int .i64 d] w fun e w' => e = .returned (.int .i64 0) ∧ Below w.heap.size w w' := by
 obtain ⟨W0, hW0, hB⟩ := RvB.start w i st
 obtain ⟨FB, fk, fc, rfl⟩ := hF
 obtain ⟨AB, ak, ac, rfl⟩ := hA
 have HB := hI hB
 have H := hI h
 have HD := hI (fun W => dWeekday_yes d h.d W)
 have hs1 : decide (st < 0) = false := decide_eq_false (by have := h.s; omega)
 have hs2 : ¬ st < 0 := by have := h.s; omega
 clear h hB
 unfold Inst.enc at *
 unfold stpC Inst.cells at hW0
 unfold stpC
 go_enter Tryz.func66, Tryz.ntmps66
 go_wp2_with fail
 refine (H.out.v W0 HB.out.b).mono ?_
 rintro e w1 ⟨rfl, b1⟩
 have HB1 := hI (HB.out.below b1)
 obtain ⟨c0, c1, c2, c3, c4, c5, c6, c7, c8, c9, c10, c11, c12, c13, c14⟩ := icellsV HB1.out.i
 have HI := H.out.i w1 HB1.out.b
 unfold Inst.enc Inst.cells at HI
 have HI' := hI HI
 clear hW0 b1 HI HB
 unfold Inst.cells
 go_wp2_with fail
 refine HI'.out.mono ?_
 rintro e w2 ⟨rfl, b2⟩
 have HB2 := hI (HB1.out.below b2)
 clear b2 HI' HB1 c0 c1 c2 c3 c4 c5 c6 c7 c8 c9 c10 c11 c12 c13 c14
 go_wp2_with fail
 refine (H.out.l w2 HB2.out.b).mono ?_
 rintro e w3 ⟨rfl, b3⟩
 have HB3 := hI (HB2.out.below b3)
 clear b3 HB2
 go_wp2_with fail
 refine (HD.out w3).mono ?_
 rintro e w4 ⟨⟨wk, rfl⟩, rfl⟩
 obtain ⟨s0, s1, s2, s3, s4, s5, s6⟩ := scellsV HB3.out.s
 clear s0 s1 s2 s3 s4 s5
 go_wp2_with fail
 go_ret
 exact ⟨rfl, HB3.out.b⟩
structure RvM (w : World) (F A : Value) (i : Inst) (d st : Int) (Q C pn pd mv : ByteArray) : Prop where
 t : ∀ W, Below w.heap.size w W → Calls Tryz.prog 67 #[A, .string i.id] W fun e w' => e = .returned (.tuple #[.string Q, .string C]) ∧ Below W.heap.size W w'
 q : Q ≠ ⟨#[]⟩
 f : ∀ W, Below w.heap.size w W → Calls Tryz.prog 68 #[F, .string i.id, .int .i64 d, .int .i64 st] W fun e w' => e = .returned (.tuple #[.agg #[.string pn, .string pd], .int .i64 0]) ∧ Below W.heap.size W w'
 p : ∀ W, Below w.heap.size w W → Calls Tryz.prog 69 #[.agg #[.string pn, .string pd], .string Q] W fun e w' => e = .returned (.string mv) ∧ Below W.heap.size W w'
theorem RvM.below {w W : World} {F A : Value} {i : Inst} {d st : Int} {Q C pn pd mv : ByteArray} (h : RvM w F A i d st Q C pn pd mv) (hb : Below w.heap.size w W) : RvM W F A i d st Q C pn pd mv :=
 ⟨fun X hx => h.t X (hb.trans (hx.mono hb.size)), h.q, fun X hx => h.f X (hb.trans (hx.mono hb.size)), fun X hx => h.p X (hb.trans (hx.mono hb.size))⟩
theorem rvMarket_ok (F A : Value) (hF : ∃ B k c, F = .slice B k c) (hA : ∃ B k c, A = .slice B k c) (i : Inst) (d st : Int) (Q C pn pd mv : ByteArray) (w : World) (h : RvC w F A i d st) (hm : RvM w F A i d st Q C pn pd mv) :
 Calls Tryz.prog 39 #[.agg (stpC st), F, i.enc, A, .int .i64 d] w fun e w' => e = .returned (.tuple #[.string mv, .int .i64 0]) ∧ Below w.heap.size w w' := by
 obtain ⟨W0, hW0, hB⟩ := RvB.start w i st
 have HB := hI hB
 have HC := hI (fun W (hb : Below w.heap.size w W) => rvCheck_ok F A hF hA i d st W (h.below hb))
 have HM := hI hm
 obtain ⟨FB, fk, fc, rfl⟩ := hF
 obtain ⟨AB, ak, ac, rfl⟩ := hA
 have hq1 : (Q.toList == []) = false := by
  have h0 := neq_toList hm.q
  simpa using h0
 obtain ⟨c0, c1, c2, c3, c4, c5, c6, c7, c8, c9, c10, c11, c12, c13, c14⟩ := icellsV HB.out.i
 obtain ⟨s0, s1, s2, s3, s4, s5, s6⟩ := scellsV HB.out.s
 clear h hB hm
 unfold Inst.enc at *
 unfold stpC Inst.cells at hW0 HC
 unfold stpC Inst.cells
 go_enter Tryz.func39, Tryz.ntmps39
 go_wp2_with fail
 refine (HC.out W0 HB.out.b).mono ?_
 rintro e w1 ⟨rfl, b1⟩
 have HB1 := hI (HB.out.below b1)
 clear hW0 b1 HB s0 s1 s2 s3 s4 s5 s6 c0 c1 c2 c3 c4 c5 c6 c7 c8 c9 c10 c11 c12 c13 c14
 obtain ⟨c0, c1, c2, c3, c4, c5, c6, c7, c8, c9, c10, c11, c12, c13, c14⟩ := icellsV HB1.out.i
 clear c1 c2 c3 c4 c5 c6 c7 c8 c9 c10 c11 c12 c13 c14
 go_wp2_with fail
 refine (HM.out.t w1 HB1.out.b).mono ?_
 rintro e w2 ⟨rfl, b2⟩
 have HB2 := hI (HB1.out.below b2)
 clear c0 b2 HB1
 obtain ⟨c0, c1, c2, c3, c4, c5, c6, c7, c8, c9, c10, c11, c12, c13, c14⟩ := icellsV HB2.out.i
 obtain ⟨s0, s1, s2, s3, s4, s5, s6⟩ := scellsV HB2.out.s
 clear c1 c2 c3 c4 c5 c6 c7 c8 c9 c10 c11 c12 c13 c14 s0 s1 s2 s3 s4 s5
 go_wp2_with fail
 refine (HM.out.f w2 HB2.out.b).mono ?_
 rintro e w3 ⟨rfl, b3⟩
 have HB3 := hI (HB2.out.below b3)
 clear c0 s6 b3 HB2
 obtain ⟨W4, hW4⟩ : ∃ W4, w3.alloc (.cells #[.string ⟨#[]⟩, .string ⟨#[]⟩] 25) = W4 := ⟨_, rfl⟩
 have b4 : Below w3.heap.size w3 W4 := by rw [← hW4]; exact (Below.refl _ w3).alloc (Nat.le_refl _) _
 have k4 : W4.heap[w3.heap.size]? = some (.cells #[.string ⟨#[]⟩, .string ⟨#[]⟩] 25 (0, 0)) := by rw [← hW4]; exact heap_alloc_new w3 _
 have hrun := run_store_rowK W4 w3.heap.size 2 25 _ #[.string pn, .string pd] (by kernel_rfl) k4 rfl rfl (fun u hu => by simp at hu; rcases hu with rfl | rfl <;> rfl)
 obtain ⟨W5, hW5⟩ : ∃ W5, W4.setRow w3.heap.size #[.string pn, .string pd] = W5 := ⟨_, rfl⟩
 rw [hW5] at hrun
 have k5 : W5.heap[w3.heap.size]? = some (.cells #[.string pn, .string pd] 25 (0, 0)) := by rw [← hW5]; exact setRow_heap W4 _ _ _ _ _ k4
 have b5 : Below w3.heap.size w3 W5 := by rw [← hW5]; exact below_setRowK b4 (Nat.le_refl _) _
 have HB5 := hI (HB3.out.below b5)
 obtain ⟨B, hBz⟩ : ∃ B, w3.heap.size = B := ⟨_, rfl⟩
 rw [hBz] at hrun k5
 have m0 := Lib.cell_of_heap k5 0
 have m1 := Lib.cell_of_heap k5 1
 simp at m0 m1
 clear b4 k4 hW5 k5 b5 HB3
 go_wp2_with (first | (refine wpList_store_runK hrun rfl _ _ rfl rfl rfl ?_) | fail)
 refine (HM.out.p W5 HB5.out.b).mono ?_
 rintro e w6 ⟨rfl, b6⟩
 have HB6 := hI (HB5.out.below b6)
 clear b6 HB5 hrun hW4 m0 m1
 go_wp2_with fail
 refine bodyPost_ret (results_tmp2 rfl _ _ _) rfl ?_
 exact ⟨rfl, HB6.out.b⟩
theorem rvUnrealized_ok (F A : Value) (hF : ∃ B k c, F = .slice B k c) (hA : ∃ B k c, A = .slice B k c) (i : Inst) (d st : Int) (Q C pn pd mv bv : ByteArray) (zm : mv.size ≤ 100000) (zb : bv.size ≤ 100000) (w : World) (h : RvC w F A i d st) (hm : RvM w F A i d st Q C pn pd mv)
 (hb : ∀ W, Below w.heap.size w W → Calls Tryz.prog 42 #[i.enc, A, .int .i64 d] W fun e w' => e = .returned (.tuple #[.string bv, .int .i64 0]) ∧ Below W.heap.size W w') (ht : Tabs w) :
 Calls Tryz.prog 21 #[.agg (stpC st), F, i.enc, A, .int .i64 d] w fun e w' => e = .returned (.tuple #[.string (I (vl mv - vl bv)), .int .i64 0]) ∧ Below w.heap.size w w' := by
 obtain ⟨W0, hW0, hB⟩ := RvB.start w i st
 have HB := hI hB
 have HC := hI (fun W (hb : Below w.heap.size w W) => rvMarket_ok F A hF hA i d st Q C pn pd mv W (h.below hb) (hm.below hb))
 have HS := hI (fun W (hb : Below w.heap.size w W) => Sub_any mv bv W (by omega) (by omega) (ht.below hb))
 have HBK := hI hb
 obtain ⟨FB, fk, fc, rfl⟩ := hF
 obtain ⟨AB, ak, ac, rfl⟩ := hA
 obtain ⟨c0, c1, c2, c3, c4, c5, c6, c7, c8, c9, c10, c11, c12, c13, c14⟩ := icellsV HB.out.i
 obtain ⟨s0, s1, s2, s3, s4, s5, s6⟩ := scellsV HB.out.s
 generalize I (vl mv - vl bv) = dv at HS ⊢
 clear h hB hm hb ht zm zb
 unfold Inst.enc at *
 unfold stpC Inst.cells at hW0 HC
 unfold Inst.cells at HBK
 unfold stpC Inst.cells
 go_enter Tryz.func21, Tryz.ntmps21
 go_wp2_with fail
 refine (HC.out W0 HB.out.b).mono ?_
 rintro e w1 ⟨rfl, b1⟩
 have HB1 := hI (HB.out.below b1)
 clear hW0 b1 HB s0 s1 s2 s3 s4 s5 s6 c0 c1 c2 c3 c4 c5 c6 c7 c8 c9 c10 c11 c12 c13 c14
 obtain ⟨c0, c1, c2, c3, c4, c5, c6, c7, c8, c9, c10, c11, c12, c13, c14⟩ := icellsV HB1.out.i
 go_wp2_with fail
 refine (HBK.out w1 HB1.out.b).mono ?_
 rintro e w2 ⟨rfl, b2⟩
 have HB2 := hI (HB1.out.below b2)
 clear c0 c1 c2 c3 c4 c5 c6 c7 c8 c9 c10 c11 c12 c13 c14 b2 HB1
 go_wp2_with fail
 refine (HS.out w2 HB2.out.b).mono ?_
 rintro e w3 ⟨rfl, b3⟩
 have HB3 := hI (HB2.out.below b3)
 clear b3 HB2
 go_wp2_with fail
 refine bodyPost_ret (results_tmp2 rfl _ _ _) rfl ?_
 exact ⟨rfl, HB3.out.b⟩
end Go.Proofs.YtbkmhmaldljgmaaGreatDoor
