/-
  The walk of accrual.Effect on what is valid. (Printed by gen_acc10.py.)
  The walks of trancheref19.day, GreatOne, Check, Find (their yes: a valid lot, a small one, no such id).
  The walks of instrument.plain and forward: 0 exactly where valid. (Printed by gen_ins9.py.)
  The walk of instrument.bond: 0 exactly where valid. (Printed by gen_ins9b.py.)
  The walk of instrument.bond: 0 exactly where valid. (Printed by gen_ins9b.py.)
  The walk of instrument.bond: 0 exactly where valid. (Printed by gen_ins9b.py.)
  The walk of instrument.bond: 0 exactly where valid. (Printed by gen_ins9b.py.)
  The walk of instrument.bond: 0 exactly where valid. (Printed by gen_ins9b.py.)
  The walk of instrument.bond: 0 exactly where valid. (Printed by gen_ins9b.py.)
  The walk of instrument.bond: 0 exactly where valid. (Printed by gen_ins9b.py.)
  The walk of instrument.bond: 0 exactly where valid. (Printed by gen_ins9b.py.)
  The walk of instrument.Check: 0 exactly where valid. (Printed by gen_ins10.py.)
-/
import Derived.Test.YtbkmhmaldljgmaaGreatDoorC17
import Derived.Test.YtbkmhmaldljgmaaGreatDoorC15
import Derived.Test.YtbkmhmaldljgmaaGreatDoorC16
import Derived.Deep.RegionWith
set_option linter.unusedVariables false
set_option linter.unusedSimpArgs false
set_option maxHeartbeats 16000000
set_option maxRecDepth 100000
namespace Go.Proofs.YtbkmhmaldljgmaaGreatDoor
open Go.RowKit Tr Go.Shelf
abbrev effZero : Array Value := #[.int .i64 0, .int .i64 0, .string ⟨#[]⟩, .string ⟨#[]⟩, .string ⟨#[]⟩, .string ⟨#[]⟩, .slice none 0 0]
theorem date_exists {d : Int} (hd : okDay d) (w : World) : ∃ (y : Int) (m : Nat) (dd : Int), VDate y m dd ∧ dayOf y m dd = d := by
 obtain ⟨e, w', fr, hR, _⟩ := Parts_any d hd w []
 obtain ⟨y, m, dd, _, hv, hd', _⟩ := hR
 exact ⟨y, m, dd, hv, hd'⟩
theorem ptext_size {d : Int} (hd : okDay d) (w : World) : (ptext d).size ≤ 100 := by
 obtain ⟨y, m, dd, hv, hd'⟩ := date_exists hd w
 obtain ⟨q, rfl⟩ : ∃ q : Nat, dd = (q : Int) := ⟨dd.toNat, by have := hv.2.2.2.2.1; omega⟩
 rw [ptext_eq hv hd']
 have b1 := hv.1
 have b2 := hv.2.1
 have b3 := hv.2.2.2.1
 have b4 := hv.2.2.2.2.2
 have b5 := lenB_pos (leapB y) m
 have hz2 := nDigits_size y (by omega) (by omega)
 have t2 : ∀ k : Nat, k < 100 → (two k).length = 2 := by
  intro k hk
  have := itoa_len hk
  unfold two; simp; omega
 have hm2 := t2 m (by omega)
 have hq2 := t2 q (by omega)
 unfold dtext
 rw [bs_size]
 simp only [List.length_append, List.length_cons, List.length_nil]
 omega
noncomputable def causeB (d : Int) (id : ByteArray) : ByteArray := ⟨#[109, 97, 114, 107, 32]⟩ ++ ptext d ++ ⟨#[32]⟩ ++ id
theorem set7 {w : World} {b : Nat} {a0 a1 a2 a3 a4 a5 a6 : Value} {t : TypeId} {m : Nat × Nat} (h : w.heap[b]? = some (.cells #[a0, a1, a2, a3, a4, a5, a6] t m)) (x0 x1 x2 x3 x4 x5 x6 : Value) :
 (((((((w.setCell ⟨b, 0, none⟩ x0).setCell ⟨b, 1, none⟩ x1).setCell ⟨b, 2, none⟩ x2).setCell ⟨b, 3, none⟩ x3).setCell ⟨b, 4, none⟩ x4).setCell ⟨b, 5, none⟩ x5).setCell ⟨b, 6, none⟩ x6).heap[b]? = some (.cells #[x0, x1, x2, x3, x4, x5, x6] t m) := by
 simp [World.setCell, Array.getElem?_modify, h]
theorem below7 {w W : World} {b : Nat} (hb : w.heap.size ≤ b) (h : Below w.heap.size w W) (x0 x1 x2 x3 x4 x5 x6 : Value) :
 Below w.heap.size w (((((((W.setCell ⟨b, 0, none⟩ x0).setCell ⟨b, 1, none⟩ x1).setCell ⟨b, 2, none⟩ x2).setCell ⟨b, 3, none⟩ x3).setCell ⟨b, 4, none⟩ x4).setCell ⟨b, 5, none⟩ x5).setCell ⟨b, 6, none⟩ x6) :=
 (((((((h.setCell (p := ⟨b, 0, none⟩) hb x0).setCell (p := ⟨b, 1, none⟩) hb x1).setCell (p := ⟨b, 2, none⟩) hb x2).setCell (p := ⟨b, 3, none⟩) hb x3).setCell (p := ⟨b, 4, none⟩) hb x4).setCell (p := ⟨b, 5, none⟩) hb x5).setCell (p := ⟨b, 6, none⟩) hb x6)
theorem far7 {W : World} {b k : Nat} (hk : k ≠ b) (x0 x1 x2 x3 x4 x5 x6 : Value) :
 (((((((W.setCell ⟨b, 0, none⟩ x0).setCell ⟨b, 1, none⟩ x1).setCell ⟨b, 2, none⟩ x2).setCell ⟨b, 3, none⟩ x3).setCell ⟨b, 4, none⟩ x4).setCell ⟨b, 5, none⟩ x5).setCell ⟨b, 6, none⟩ x6).heap[k]? = W.heap[k]? := by
 simp [World.setCell, Array.getElem?_modify, Ne.symm hk]
def EffPost (w : World) (kind d : Int) (i : Inst) (ch : ByteArray) (e : Ending) (w' : World) : Prop :=
 ∃ B : Nat, e = .returned (.tuple #[.agg #[.int .i64 kind, .int .i64 d, .string (causeB d i.id), .string i.id, .string ⟨#[]⟩, .string i.cur, .slice (some ⟨B, 0, none⟩) 1 1], .bool true, .int .i64 0]) ∧ w'.heap[B]? = some (.cells #[.string ⟨#[97, 109, 111, 117, 110, 116]⟩, .string ch] 82 (0, 0)) ∧ w.heap.size ≤ B ∧ Below w.heap.size w w'
theorem Effect_none (kind : Int) (hk : kind = 17 ∨ kind = 18 ∨ kind = 19) (d : Int) (hd : okDay d) (i : Inst) (hsm : i.small) (hok : i.ok) (w : World) (ht : Tabs w) :
 Calls Tryz.prog 25 #[.int .i64 kind, .int .i64 d, i.enc, .string ⟨#[]⟩] w fun e w' => e = .returned (.tuple #[.agg effZero, .bool false, .int .i64 0]) ∧ Below w.heap.size w w' := by
 obtain ⟨ch, hce⟩ : ∃ ch : ByteArray, ch = ⟨#[]⟩ := ⟨_, rfl⟩
 have hch : Can ⟨#[]⟩ := rfl
 have hcz : (⟨#[]⟩ : ByteArray).size ≤ 1000 := by decide
 clear hce ch
 obtain ⟨W0, hW0', hB0, hz, k0, k1⟩ := box2 w (.cells i.cells 27) (.cells effZero 47)
 have hW0 := hW0'.symm
 obtain ⟨c0, c1, c2, c3, c4, c5, c6, c7, c8, c9, c10, c11, c12, c13, c14⟩ := cells15 k0
 have HT := hI ht
 have HB0 := hI hB0
 have HK0 : Hid (InstBox W0 w.heap.size i) := k0
 have HK1 := hI k1
 have HC1 := hI (iCheck_ok i hsm.sized hok W0 (ht.below hB0))
 have HC2 := hI (fun W => Check_yes ⟨#[]⟩ W (by show 0 ≤ _; omega) hch)
 have HP := hI (fun W hW => Print_any d hd W hW)
 have hpz := ptext_size hd w
 have hiz := hsm.id
 have t1 : (kind != 17 && kind != 18 && kind != 19) = false := by rcases hk with rfl | rfl | rfl <;> rfl
 clear hW0' hz ht hB0 k0 k1 hsm hok hch hd
 unfold Inst.enc Inst.cells effZero at *
 rcases hk with rfl | rfl | rfl
 all_goals
  clear t1
  go_enter Tryz.func25, Tryz.ntmps25
  go_wp2_with fail
  refine HC1.out.mono ?_
  rintro e w1 ⟨rfl, b1⟩
  have HB1 := hI (HB0.out.trans (b1.mono HB0.out.size))
  have HG0 := hI (HK0.out.below b1)
  have HG1 := hI ((b1.block (w.heap.size + 1) (Array.getElem?_eq_some_iff.1 HK1.out).1).trans HK1.out)
  clear b1 HK0 HK1 HB0 HC1 hW0
  clear c0 c1 c2 c3 c4 c5 c6 c7 c8 c9 c10 c11 c12 c13 c14
  go_wp2_with fail
  refine (HC2.out _).mono ?_
  rintro e w2 ⟨rfl, b2⟩
  have HB2 := hI (HB1.out.trans (b2.mono HB1.out.size))
  have HH0 := hI (HG0.out.below b2)
  have HH1 := hI ((b2.block (w.heap.size + 1) (Array.getElem?_eq_some_iff.1 HG1.out).1).trans HG1.out)
  clear b2 HG0 HG1 HB1 HC2
  go_wp2_with fail
  refine (HP.out _ (HT.out.below HB2.out)).mono ?_
  rintro e w3 ⟨rfl, b3⟩
  have HB3 := hI (HB2.out.trans (b3.mono HB2.out.size))
  have g0 := HH0.out.below b3
  have g1 := (b3.block (w.heap.size + 1) (Array.getElem?_eq_some_iff.1 HH1.out).1).trans HH1.out
  have HL0 := hI g0
  have HL1 := hI g1
  have hl3 : w.heap.size + 1 < w3.heap.size := (Array.getElem?_eq_some_iff.1 g1).1
  have c0 := Lib.cell_of_heap g0 0
  have c2 := Lib.cell_of_heap g0 2
  simp at c0 c2
  obtain ⟨r0, r1, r2, r3, r4, r5, r6⟩ := cells7 g1
  obtain ⟨f0, f1, f2, f3, f4, f5, f6⟩ := frozen7 g1
  clear b3 HH0 HH1 HB2 g0 g1 HP
  go_wp2_with fail
  have q7 := set7 HL1.out (.int .i64 0) (.int .i64 0) (.string ⟨#[]⟩) (.string ⟨#[]⟩) (.string ⟨#[]⟩) (.string ⟨#[]⟩) (.slice none 0 0)
  have q8 := below7 (b := w.heap.size + 1) (by omega) HB3.out (.int .i64 0) (.int .i64 0) (.string ⟨#[]⟩) (.string ⟨#[]⟩) (.string ⟨#[]⟩) (.string ⟨#[]⟩) (.slice none 0 0)
  generalize (((((((w3.setCell ⟨w.heap.size + 1, 0, none⟩ (.int .i64 0)).setCell ⟨w.heap.size + 1, 1, none⟩ (.int .i64 0)).setCell ⟨w.heap.size + 1, 2, none⟩ (.string ⟨#[]⟩)).setCell ⟨w.heap.size + 1, 3, none⟩ (.string ⟨#[]⟩)).setCell ⟨w.heap.size + 1, 4, none⟩ (.string ⟨#[]⟩)).setCell ⟨w.heap.size + 1, 5, none⟩ (.string ⟨#[]⟩)).setCell ⟨w.heap.size + 1, 6, none⟩ (.slice none 0 0)) = W9 at q7 q8 ⊢
  obtain ⟨m0, m1, m2, m3, m4, m5, m6⟩ := cells7 q7
  exact bodyPost_ret (v := .tuple #[.agg effZero, .bool false, .int .i64 0]) (by simp [results, Tryz.results25, go_sem, m0, m1, m2, m3, m4, m5, m6]) rfl ⟨rfl, q8⟩
theorem eff_close {w W4 : World} {B : Nat} {kind d : Int} {i : Inst} {ch : ByteArray} {a : Act} (h1 : W4.heap[w.heap.size + 1]? = some (.cells effZero 47 (0, 0))) (hB : Below w.heap.size w W4)
 (hT : W4.heap[B]? = some (.cells #[.string ⟨#[97, 109, 111, 117, 110, 116]⟩, .string ch] 82 (0, 0))) (hl : w.heap.size + 1 < B) (hd : a.defers = [])
 (hr : ∀ W9 : World, W9.cell? ⟨w.heap.size + 1, 0, none⟩ = some (.int .i64 kind) → W9.cell? ⟨w.heap.size + 1, 1, none⟩ = some (.int .i64 d) → W9.cell? ⟨w.heap.size + 1, 2, none⟩ = some (.string (⟨#[109, 97, 114, 107, 32]⟩ ++ ptext d ++ ⟨#[32]⟩ ++ i.id)) → W9.cell? ⟨w.heap.size + 1, 3, none⟩ = some (.string i.id) → W9.cell? ⟨w.heap.size + 1, 4, none⟩ = some (.string ⟨#[]⟩) → W9.cell? ⟨w.heap.size + 1, 5, none⟩ = some (.string i.cur) → W9.cell? ⟨w.heap.size + 1, 6, none⟩ = some (.slice (some ⟨B, 0, none⟩) 1 1) →
   (results Tryz.f25 a.tmps).run Tryz.prog W9 = .ok (.tuple #[.agg #[.int .i64 kind, .int .i64 d, .string (⟨#[109, 97, 114, 107, 32]⟩ ++ ptext d ++ ⟨#[32]⟩ ++ i.id), .string i.id, .string ⟨#[]⟩, .string i.cur, .slice (some ⟨B, 0, none⟩) 1 1], .bool true, .int .i64 0]) W9) :
 bodyPost Tryz.prog Tryz.f25 (EffPost w kind d i ch) .ret a (((((((W4.setCell ⟨w.heap.size + 1, 0, none⟩ (.int .i64 kind)).setCell ⟨w.heap.size + 1, 1, none⟩ (.int .i64 d)).setCell ⟨w.heap.size + 1, 2, none⟩ (.string (⟨#[109, 97, 114, 107, 32]⟩ ++ ptext d ++ ⟨#[32]⟩ ++ i.id))).setCell ⟨w.heap.size + 1, 3, none⟩ (.string i.id)).setCell ⟨w.heap.size + 1, 4, none⟩ (.string ⟨#[]⟩)).setCell ⟨w.heap.size + 1, 5, none⟩ (.string i.cur)).setCell ⟨w.heap.size + 1, 6, none⟩ (.slice (some ⟨B, 0, none⟩) 1 1)) := by
 have q7 := set7 h1 (.int .i64 kind) (.int .i64 d) (.string (⟨#[109, 97, 114, 107, 32]⟩ ++ ptext d ++ ⟨#[32]⟩ ++ i.id)) (.string i.id) (.string ⟨#[]⟩) (.string i.cur) (.slice (some ⟨B, 0, none⟩) 1 1)
 have q8 := below7 (b := w.heap.size + 1) (by omega) hB (.int .i64 kind) (.int .i64 d) (.string (⟨#[109, 97, 114, 107, 32]⟩ ++ ptext d ++ ⟨#[32]⟩ ++ i.id)) (.string i.id) (.string ⟨#[]⟩) (.string i.cur) (.slice (some ⟨B, 0, none⟩) 1 1)
 have q9 := (far7 (W := W4) (b := w.heap.size + 1) (k := B) (by omega) (.int .i64 kind) (.int .i64 d) (.string (⟨#[109, 97, 114, 107, 32]⟩ ++ ptext d ++ ⟨#[32]⟩ ++ i.id)) (.string i.id) (.string ⟨#[]⟩) (.string i.cur) (.slice (some ⟨B, 0, none⟩) 1 1)).trans hT
 generalize (((((((W4.setCell ⟨w.heap.size + 1, 0, none⟩ (.int .i64 kind)).setCell ⟨w.heap.size + 1, 1, none⟩ (.int .i64 d)).setCell ⟨w.heap.size + 1, 2, none⟩ (.string (⟨#[109, 97, 114, 107, 32]⟩ ++ ptext d ++ ⟨#[32]⟩ ++ i.id))).setCell ⟨w.heap.size + 1, 3, none⟩ (.string i.id)).setCell ⟨w.heap.size + 1, 4, none⟩ (.string ⟨#[]⟩)).setCell ⟨w.heap.size + 1, 5, none⟩ (.string i.cur)).setCell ⟨w.heap.size + 1, 6, none⟩ (.slice (some ⟨B, 0, none⟩) 1 1)) = W9 at q7 q8 q9 ⊢
 have m0 := Lib.cell_of_heap q7 0
 have m1 := Lib.cell_of_heap q7 1
 have m2 := Lib.cell_of_heap q7 2
 have m3 := Lib.cell_of_heap q7 3
 have m4 := Lib.cell_of_heap q7 4
 have m5 := Lib.cell_of_heap q7 5
 have m6 := Lib.cell_of_heap q7 6
 exact bodyPost_ret (hr W9 m0 m1 m2 m3 m4 m5 m6) hd ⟨B, rfl, q9, by omega, q8⟩
theorem Effect_some (kind : Int) (hk : kind = 17 ∨ kind = 18 ∨ kind = 19) (d : Int) (hd : okDay d) (i : Inst) (hsm : i.small) (hok : i.ok) (ch : ByteArray) (hch : Can ch) (hcz : ch.size ≤ 1000) (hne : ch ≠ ⟨#[]⟩) (w : World) (ht : Tabs w) :
 Calls Tryz.prog 25 #[.int .i64 kind, .int .i64 d, i.enc, .string ch] w (EffPost w kind d i ch) := by
 have hne' := str_empty ch
 rw [decide_eq_false hne] at hne'
 clear hne
 obtain ⟨W0, hW0', hB0, hz, k0, k1⟩ := box2 w (.cells i.cells 27) (.cells effZero 47)
 have hW0 := hW0'.symm
 obtain ⟨c0, c1, c2, c3, c4, c5, c6, c7, c8, c9, c10, c11, c12, c13, c14⟩ := cells15 k0
 have HT := hI ht
 have HB0 := hI hB0
 have HK0 : Hid (InstBox W0 w.heap.size i) := k0
 have HK1 := hI k1
 have HC1 := hI (iCheck_ok i hsm.sized hok W0 (ht.below hB0))
 have HC2 := hI (fun W => Check_yes ch W (by omega) hch)
 have HP := hI (fun W hW => Print_any d hd W hW)
 have hpz := ptext_size hd w
 have hiz := hsm.id
 have t1 : (kind != 17 && kind != 18 && kind != 19) = false := by rcases hk with rfl | rfl | rfl <;> rfl
 clear hW0' hz ht hB0 k0 k1 hsm hok hch hd
 unfold Inst.enc Inst.cells effZero at *
 rcases hk with rfl | rfl | rfl
 all_goals
  clear t1
  go_enter Tryz.func25, Tryz.ntmps25
  go_wp2_with fail
  refine HC1.out.mono ?_
  rintro e w1 ⟨rfl, b1⟩
  have HB1 := hI (HB0.out.trans (b1.mono HB0.out.size))
  have HG0 := hI (HK0.out.below b1)
  have HG1 := hI ((b1.block (w.heap.size + 1) (Array.getElem?_eq_some_iff.1 HK1.out).1).trans HK1.out)
  clear b1 HK0 HK1 HB0 HC1 hW0
  clear c0 c1 c2 c3 c4 c5 c6 c7 c8 c9 c10 c11 c12 c13 c14
  go_wp2_with fail
  refine (HC2.out _).mono ?_
  rintro e w2 ⟨rfl, b2⟩
  have HB2 := hI (HB1.out.trans (b2.mono HB1.out.size))
  have HH0 := hI (HG0.out.below b2)
  have HH1 := hI ((b2.block (w.heap.size + 1) (Array.getElem?_eq_some_iff.1 HG1.out).1).trans HG1.out)
  clear b2 HG0 HG1 HB1 HC2
  go_wp2_with fail
  refine (HP.out _ (HT.out.below HB2.out)).mono ?_
  rintro e w3 ⟨rfl, b3⟩
  have HB3 := hI (HB2.out.trans (b3.mono HB2.out.size))
  have g0 := HH0.out.below b3
  have g1 := (b3.block (w.heap.size + 1) (Array.getElem?_eq_some_iff.1 HH1.out).1).trans HH1.out
  have HL0 := hI g0
  have HL1 := hI g1
  have hl3 : w.heap.size + 1 < w3.heap.size := (Array.getElem?_eq_some_iff.1 g1).1
  have c0 := Lib.cell_of_heap g0 0
  have c2 := Lib.cell_of_heap g0 2
  simp at c0 c2
  obtain ⟨r0, r1, r2, r3, r4, r5, r6⟩ := cells7 g1
  obtain ⟨f0, f1, f2, f3, f4, f5, f6⟩ := frozen7 g1
  clear b3 HH0 HH1 HB2 g0 g1 HP
  obtain ⟨W4, hW4⟩ : ∃ W4, w3.alloc (.cells #[.string ⟨#[97, 109, 111, 117, 110, 116]⟩, .string ch] 82) = W4 := ⟨_, rfl⟩
  have b4 : Below w3.heap.size w3 W4 := by rw [← hW4]; exact (Below.refl _ w3).alloc (Nat.le_refl _) _
  have HB4 := hI (HB3.out.trans (b4.mono HB3.out.size))
  have HT4 : Hid (W4.heap[w3.heap.size]? = some (.cells #[.string ⟨#[97, 109, 111, 117, 110, 116]⟩, .string ch] 82 (0, 0))) := by rw [Hid, ← hW4]; exact heap_alloc_new w3 _
  have g1 := (b4.block (w.heap.size + 1) (Array.getElem?_eq_some_iff.1 HL1.out).1).trans HL1.out
  clear r0 r1 r2 r3 r4 r5 r6 f0 f1 f2 f3 f4 f5 f6
  obtain ⟨r0, r1, r2, r3, r4, r5, r6⟩ := cells7 g1
  obtain ⟨f0, f1, f2, f3, f4, f5, f6⟩ := frozen7 g1
  have HL4 := hI g1
  clear b4 g1 HL0 HL1 HB3
  go_wp2_with fail
  exact eff_close HL4.out HB4.out HT4.out hl3 rfl (fun W9 m0 m1 m2 m3 m4 m5 m6 => by simp [results, Tryz.results25, go_sem, m0, m1, m2, m3, m4, m5, m6])
def Lot.tiny (l : Lot) : Prop := l.qty.size ≤ 13 ∧ l.cost.size ≤ 13 ∧ l.used.size ≤ 13 ∧ l.id.size ≤ 40 ∧ l.inst.size ≤ 40
theorem Lot.tiny.sized {l : Lot} (h : l.tiny) : l.sized := by
 obtain ⟨h1, h2, h3, h4, h5⟩ := h
 exact ⟨by omega, by omega, by omega, by omega, by omega⟩
theorem cmpI_pos {z : Int} (h : 0 < z) : decide (cmpI z 0 ≤ 0) = false := decide_eq_false (by rw [cmpI_le]; omega)
theorem cmpI_npos {z : Int} (h : ¬ 0 < z) : decide (cmpI z 0 ≤ 0) = true := decide_eq_true (by rw [cmpI_le]; omega)
theorem cmpI_neg {z : Int} (h : z < 0) : decide (cmpI z 0 < 0) = true := decide_eq_true (by rw [cmpI_lt]; omega)
theorem cmpI_nneg {z : Int} (h : ¬ z < 0) : decide (cmpI z 0 < 0) = false := decide_eq_false (by rw [cmpI_lt]; omega)
theorem bytes_eq (a b : ByteArray) : (a.toList == b.toList) = decide (a = b) := by
 by_cases h : a = b
 ·subst h; simp
 ·rw [decide_eq_false h]; exact neq_toList h
theorem plain_any (i : Inst) (hs : i.sized) (w : World) : Calls Tryz.prog 76 #[i.enc] w (ChkPost w (plainOk i)) := by
 obtain ⟨W0, hW0, hB0, hz, hk⟩ := ibox i w
 obtain ⟨c0, c1, c2, c3, c4, c5, c6, c7, c8, c9, c10, c11, c12, c13, c14⟩ := cells15 hk
 have HB := Lib.hid hB0
 have HK : Hid (InstBox W0 w.heap.size i) := hk
 obtain ⟨z1, z2, z3, z4, z5, z6, z7, z8, z9⟩ := hs
 have S1 := Lib.hid (fun W => isign_any i.fn i.fd (by omega) W)
 have S2 := Lib.hid (fun W => isign_any i.cn i.cd (by omega) W)
 have S3 := Lib.hid (fun W => isign_any i.sn i.sd (by omega) W)
 clear hk hB0 hz z1 z2 z3 z4 z5 z6 z7 z8 z9
 unfold Inst.enc Inst.cells at *
 go_enter Tryz.func76, Tryz.ntmps76
 go_wp2_with fail
 refine (S1.out W0).mono ?_
 rintro e w1 ⟨rfl, b1⟩
 have hk1 := HK.out.below b1
 replace HB := Lib.hid (HB.out.trans (b1.mono HB.out.size))
 clear c0 c1 c2 c3 c4 c5 c6 c7 c8 c9 c10 c11 c12 c13 c14
 obtain ⟨c0, c1, c2, c3, c4, c5, c6, c7, c8, c9, c10, c11, c12, c13, c14⟩ := cells15 hk1
 replace HK := Lib.hid hk1
 clear b1 hk1 S1 hW0
 by_cases h1 : vl i.fn = 0
 case neg =>
  have th1 : (cmpI (vl i.fn) 0 == 0) = false := beq_eq_false_iff_ne.2 (fun e => h1 (cmpI_eq.1 e))
  have th1' : (cmpI (vl i.fn) 0 != 0) = true := by rw [bne, th1]; rfl
  have H := Lib.hid h1
  clear h1
  go_wp2_with fail
  go_ret
  exact ChkPost.bad (by decide) (fun h => H.out h.1) HB.out
 have th1 : (cmpI (vl i.fn) 0 == 0) = true := beq_iff_eq.2 (cmpI_eq.2 h1)
 have th1' : (cmpI (vl i.fn) 0 != 0) = false := by rw [bne, th1]; rfl
 have Hh1 := Lib.hid h1
 clear h1
 go_wp2_with fail
 refine (S2.out _).mono ?_
 rintro e w2 ⟨rfl, b1⟩
 have hk1 := HK.out.below b1
 replace HB := Lib.hid (HB.out.trans (b1.mono HB.out.size))
 clear c0 c1 c2 c3 c4 c5 c6 c7 c8 c9 c10 c11 c12 c13 c14
 obtain ⟨c0, c1, c2, c3, c4, c5, c6, c7, c8, c9, c10, c11, c12, c13, c14⟩ := cells15 hk1
 replace HK := Lib.hid hk1
 clear b1 hk1 S2
 by_cases h2 : vl i.cn = 0
 case neg =>
  have th2 : (cmpI (vl i.cn) 0 == 0) = false := beq_eq_false_iff_ne.2 (fun e => h2 (cmpI_eq.1 e))
  have th2' : (cmpI (vl i.cn) 0 != 0) = true := by rw [bne, th2]; rfl
  have H := Lib.hid h2
  clear h2
  go_wp2_with fail
  go_ret
  exact ChkPost.bad (by decide) (fun h => H.out h.2.1) HB.out
 have th2 : (cmpI (vl i.cn) 0 == 0) = true := beq_iff_eq.2 (cmpI_eq.2 h2)
 have th2' : (cmpI (vl i.cn) 0 != 0) = false := by rw [bne, th2]; rfl
 have Hh2 := Lib.hid h2
 clear h2
 by_cases h3 : i.months = 0
 case neg =>
  have th3 : (i.months == 0) = false := beq_eq_false_iff_ne.2 h3
  have th3' : (i.months != 0) = true := by rw [bne, th3]; rfl
  have H := Lib.hid h3
  clear h3
  go_wp2_with fail
  go_ret
  exact ChkPost.bad (by decide) (fun h => H.out h.2.2.1) HB.out
 have th3 : (i.months == 0) = true := beq_iff_eq.2 h3
 have th3' : (i.months != 0) = false := by rw [bne, th3]; rfl
 have Hh3 := Lib.hid h3
 clear h3
 by_cases h4 : i.count = 0
 case neg =>
  have th4 : (i.count == 0) = false := beq_eq_false_iff_ne.2 h4
  have th4' : (i.count != 0) = true := by rw [bne, th4]; rfl
  have H := Lib.hid h4
  clear h4
  go_wp2_with fail
  go_ret
  exact ChkPost.bad (by decide) (fun h => H.out h.2.2.2.1) HB.out
 have th4 : (i.count == 0) = true := beq_iff_eq.2 h4
 have th4' : (i.count != 0) = false := by rw [bne, th4]; rfl
 have Hh4 := Lib.hid h4
 clear h4
 go_wp2_with fail
 refine (S3.out _).mono ?_
 rintro e w3 ⟨rfl, b1⟩
 have hk1 := HK.out.below b1
 replace HB := Lib.hid (HB.out.trans (b1.mono HB.out.size))
 clear c0 c1 c2 c3 c4 c5 c6 c7 c8 c9 c10 c11 c12 c13 c14
 obtain ⟨c0, c1, c2, c3, c4, c5, c6, c7, c8, c9, c10, c11, c12, c13, c14⟩ := cells15 hk1
 replace HK := Lib.hid hk1
 clear b1 hk1 S3
 by_cases h5 : vl i.sn = 0
 case neg =>
  have th5 : (cmpI (vl i.sn) 0 == 0) = false := beq_eq_false_iff_ne.2 (fun e => h5 (cmpI_eq.1 e))
  have th5' : (cmpI (vl i.sn) 0 != 0) = true := by rw [bne, th5]; rfl
  have H := Lib.hid h5
  clear h5
  go_wp2_with fail
  go_ret
  exact ChkPost.bad (by decide) (fun h => H.out h.2.2.2.2.1) HB.out
 have th5 : (cmpI (vl i.sn) 0 == 0) = true := beq_iff_eq.2 (cmpI_eq.2 h5)
 have th5' : (cmpI (vl i.sn) 0 != 0) = false := by rw [bne, th5]; rfl
 have Hh5 := Lib.hid h5
 clear h5
 by_cases h6 : i.other = ⟨#[]⟩
 case neg =>
  have th6 : (i.other.toList == []) = false := by rw [str_empty, decide_eq_false h6]
  have H := Lib.hid h6
  clear h6
  go_wp2_with fail
  go_ret
  exact ChkPost.bad (by decide) (fun h => H.out h.2.2.2.2.2) HB.out
 have th6 : (i.other.toList == []) = true := by rw [str_empty, decide_eq_true h6]
 have Hh6 := Lib.hid h6
 clear h6
 go_wp2_with fail
 go_ret
 exact ChkPost.good ⟨Hh1.out, Hh2.out, Hh3.out, Hh4.out, Hh5.out, Hh6.out⟩ HB.out
theorem forward_any (i : Inst) (hs : i.sized) (w : World) : Calls Tryz.prog 78 #[i.enc] w (ChkPost w (fwdOk i)) := by
 obtain ⟨W0, hW0, hB0, hz, hk⟩ := ibox i w
 obtain ⟨c0, c1, c2, c3, c4, c5, c6, c7, c8, c9, c10, c11, c12, c13, c14⟩ := cells15 hk
 have HB := Lib.hid hB0
 have HK : Hid (InstBox W0 w.heap.size i) := hk
 obtain ⟨z1, z2, z3, z4, z5, z6, z7, z8, z9⟩ := hs
 have S0 := Lib.hid (fun W => isCode_any i.other (by omega) W)
 have S1 := Lib.hid (fun W => isign_any i.fn i.fd (by omega) W)
 have S2 := Lib.hid (fun W => isign_any i.cn i.cd (by omega) W)
 have S3 := Lib.hid (fun W => isign_any i.sn i.sd (by omega) W)
 clear hk hB0 hz z1 z2 z3 z4 z5 z6 z7 z8 z9
 unfold Inst.enc Inst.cells at *
 go_enter Tryz.func78, Tryz.ntmps78
 go_wp2_with fail
 refine (S0.out W0).mono ?_
 rintro e w4 ⟨rfl, b1⟩
 have hk1 := HK.out.below b1
 replace HB := Lib.hid (HB.out.trans (b1.mono HB.out.size))
 clear c0 c1 c2 c3 c4 c5 c6 c7 c8 c9 c10 c11 c12 c13 c14
 obtain ⟨c0, c1, c2, c3, c4, c5, c6, c7, c8, c9, c10, c11, c12, c13, c14⟩ := cells15 hk1
 replace HK := Lib.hid hk1
 clear b1 hk1 S0 hW0
 by_cases h1 : codeOk i.other = true
 case neg =>
  rw [Bool.not_eq_true] at h1
  rw [h1]
  have H := Lib.hid h1
  clear h1
  go_wp2_with fail
  go_ret
  exact ChkPost.bad (by decide) (fun h => by have := h.1; rw [H.out] at this; cases this) HB.out
 rw [h1]
 have Hh1 := Lib.hid h1
 clear h1
 by_cases h2 : i.other ≠ i.cur
 case neg =>
  have th2 : (i.other.toList == i.cur.toList) = true := by rw [Classical.not_not] at h2; rw [h2]; exact beq_self_eq_true _
  have H := Lib.hid h2
  clear h2
  go_wp2_with fail
  go_ret
  exact ChkPost.bad (by decide) (fun h => H.out h.2.1) HB.out
 have th2 : (i.other.toList == i.cur.toList) = false := neq_toList h2
 have Hh2 := Lib.hid h2
 clear h2
 go_wp2_with fail
 refine (S3.out _).mono ?_
 rintro e w5 ⟨rfl, b1⟩
 have hk1 := HK.out.below b1
 replace HB := Lib.hid (HB.out.trans (b1.mono HB.out.size))
 clear c0 c1 c2 c3 c4 c5 c6 c7 c8 c9 c10 c11 c12 c13 c14
 obtain ⟨c0, c1, c2, c3, c4, c5, c6, c7, c8, c9, c10, c11, c12, c13, c14⟩ := cells15 hk1
 replace HK := Lib.hid hk1
 clear b1 hk1 S3
 by_cases h3 : 0 < vl i.sn
 case neg =>
  have th3 : decide (cmpI (vl i.sn) 0 ≤ 0) = true := cmpI_npos h3
  have H := Lib.hid h3
  clear h3
  go_wp2_with fail
  go_ret
  exact ChkPost.bad (by decide) (fun h => by have := h.2.2.1; have := H.out; omega) HB.out
 have th3 : decide (cmpI (vl i.sn) 0 ≤ 0) = false := cmpI_pos h3
 have Hh3 := Lib.hid h3
 clear h3
 go_wp2_with fail
 refine (S1.out _).mono ?_
 rintro e w6 ⟨rfl, b1⟩
 have hk1 := HK.out.below b1
 replace HB := Lib.hid (HB.out.trans (b1.mono HB.out.size))
 clear c0 c1 c2 c3 c4 c5 c6 c7 c8 c9 c10 c11 c12 c13 c14
 obtain ⟨c0, c1, c2, c3, c4, c5, c6, c7, c8, c9, c10, c11, c12, c13, c14⟩ := cells15 hk1
 replace HK := Lib.hid hk1
 clear b1 hk1 S1
 by_cases h4 : vl i.fn = 0
 case neg =>
  have th4 : (cmpI (vl i.fn) 0 == 0) = false := beq_eq_false_iff_ne.2 (fun e => h4 (cmpI_eq.1 e))
  have th4' : (cmpI (vl i.fn) 0 != 0) = true := by rw [bne, th4]; rfl
  have H := Lib.hid h4
  clear h4
  go_wp2_with fail
  go_ret
  exact ChkPost.bad (by decide) (fun h => H.out h.2.2.2.1) HB.out
 have th4 : (cmpI (vl i.fn) 0 == 0) = true := beq_iff_eq.2 (cmpI_eq.2 h4)
 have th4' : (cmpI (vl i.fn) 0 != 0) = false := by rw [bne, th4]; rfl
 have Hh4 := Lib.hid h4
 clear h4
 go_wp2_with fail
 refine (S2.out _).mono ?_
 rintro e w7 ⟨rfl, b1⟩
 have hk1 := HK.out.below b1
 replace HB := Lib.hid (HB.out.trans (b1.mono HB.out.size))
 clear c0 c1 c2 c3 c4 c5 c6 c7 c8 c9 c10 c11 c12 c13 c14
 obtain ⟨c0, c1, c2, c3, c4, c5, c6, c7, c8, c9, c10, c11, c12, c13, c14⟩ := cells15 hk1
 replace HK := Lib.hid hk1
 clear b1 hk1 S2
 by_cases h5 : vl i.cn = 0
 case neg =>
  have th5 : (cmpI (vl i.cn) 0 == 0) = false := beq_eq_false_iff_ne.2 (fun e => h5 (cmpI_eq.1 e))
  have th5' : (cmpI (vl i.cn) 0 != 0) = true := by rw [bne, th5]; rfl
  have H := Lib.hid h5
  clear h5
  go_wp2_with fail
  go_ret
  exact ChkPost.bad (by decide) (fun h => H.out h.2.2.2.2.1) HB.out
 have th5 : (cmpI (vl i.cn) 0 == 0) = true := beq_iff_eq.2 (cmpI_eq.2 h5)
 have th5' : (cmpI (vl i.cn) 0 != 0) = false := by rw [bne, th5]; rfl
 have Hh5 := Lib.hid h5
 clear h5
 by_cases h6 : i.months = 0
 case neg =>
  have th6 : (i.months == 0) = false := beq_eq_false_iff_ne.2 h6
  have th6' : (i.months != 0) = true := by rw [bne, th6]; rfl
  have H := Lib.hid h6
  clear h6
  go_wp2_with fail
  go_ret
  exact ChkPost.bad (by decide) (fun h => H.out h.2.2.2.2.2.1) HB.out
 have th6 : (i.months == 0) = true := beq_iff_eq.2 h6
 have th6' : (i.months != 0) = false := by rw [bne, th6]; rfl
 have Hh6 := Lib.hid h6
 clear h6
 by_cases h7 : i.count = 0
 case neg =>
  have th7 : (i.count == 0) = false := beq_eq_false_iff_ne.2 h7
  have th7' : (i.count != 0) = true := by rw [bne, th7]; rfl
  have H := Lib.hid h7
  clear h7
  go_wp2_with fail
  go_ret
  exact ChkPost.bad (by decide) (fun h => H.out h.2.2.2.2.2.2) HB.out
 have th7 : (i.count == 0) = true := beq_iff_eq.2 h7
 have th7' : (i.count != 0) = false := by rw [bne, th7]; rfl
 have Hh7 := Lib.hid h7
 clear h7
 go_wp2_with fail
 go_ret
 exact ChkPost.good ⟨Hh1.out, Hh2.out, Hh3.out, Hh4.out, Hh5.out, Hh6.out, Hh7.out⟩ HB.out
theorem bond_a (i : Inst) (hs : i.sized) (h1 : ¬ 0 < vl i.fn) (w : World) :
 Calls Tryz.prog 77 #[i.enc] w fun e w' => e = .returned (.int .i64 2) ∧ Below w.heap.size w w' := by
 obtain ⟨W0, hW0, hB0, hz, hk⟩ := ibox i w
 obtain ⟨W1, hW1⟩ : ∃ W1, W0.alloc (.cells #[.int .i64 1, .int .i64 2, .int .i64 3, .int .i64 4, .int .i64 6, .int .i64 12] 183) = W1 := ⟨_, rfl⟩
 have hB1 : Below w.heap.size w W1 := by rw [← hW1]; exact hB0.alloc (by omega) _
 have hk1 : W1.heap[w.heap.size]? = some (.cells i.cells 27) := by rw [← hW1]; exact (Below.heap_alloc _ _ _ (by omega)).trans hk
 have hkm : W1.heap[w.heap.size + 1]? = some (.cells #[.int .i64 1, .int .i64 2, .int .i64 3, .int .i64 4, .int .i64 6, .int .i64 12] 183) := by
  rw [← hW1, ← hz]; exact heap_alloc_new W0 _
 have c6 := Lib.cell_of_heap hk1 6
 have c7 := Lib.cell_of_heap hk1 7
 have c8 := Lib.cell_of_heap hk1 8
 have c9 := Lib.cell_of_heap hk1 9
 have c10 := Lib.cell_of_heap hk1 10
 have c11 := Lib.cell_of_heap hk1 11
 have c12 := Lib.cell_of_heap hk1 12
 have c13 := Lib.cell_of_heap hk1 13
 have c14 := Lib.cell_of_heap hk1 14
 simp at c6 c7 c8 c9 c10 c11 c12 c13 c14
 have HB1 := Lib.hid hB1
 have HKM := Lib.hid hkm
 obtain ⟨z1, z2, z3, z4, z5, z6, z7, z8, z9⟩ := hs
 have hsz : W0.heap.size = w.heap.size + 1 := hz
 have q1 : decide (cmpI (vl i.fn) 0 ≤ 0) = true := decide_eq_true (by rw [cmpI_le]; omega)
 clear hk hB0 hz hk1 hkm hB1 h1
 unfold Inst.enc Inst.cells at *
 go_enter Tryz.func77, Tryz.ntmps77
 go_wp2_with fail
 first
 | go_region_with (first
    | (go_at_call_of 133 [Value.agg #[Value.string i.fn, Value.string i.fd]]; refine (isign_any i.fn i.fd (by omega) W1.drew).mono ?_; rintro e w1 ⟨rfl, b1⟩; have d6 := keepc c6 b1; have d7 := keepc c7 b1; have d8 := keepc c8 b1; have d9 := keepc c9 b1; have d10 := keepc c10 b1; have d11 := keepc c11 b1; have d12 := keepc c12 b1; have d13 := keepc c13 b1; have d14 := keepc c14 b1; have HB2 := Lib.hid (HB1.out.drew.trans (b1.mono HB1.out.size)); have HKM1 := Lib.hid ((b1.block (w.heap.size + 1) (Array.getElem?_eq_some_iff.1 HKM.out).1).trans HKM.out); clear b1))
 | fail "the region fell"
 all_goals
  go_wp2_with fail
  go_ret
  exact ⟨rfl, HB2.out⟩
theorem bond_b (i : Inst) (hs : i.sized) (h1 : 0 < vl i.fn) (h2 : ¬ 0 ≤ vl i.cn) (w : World) :
 Calls Tryz.prog 77 #[i.enc] w fun e w' => e = .returned (.int .i64 2) ∧ Below w.heap.size w w' := by
 obtain ⟨W0, hW0, hB0, hz, hk⟩ := ibox i w
 obtain ⟨W1, hW1⟩ : ∃ W1, W0.alloc (.cells #[.int .i64 1, .int .i64 2, .int .i64 3, .int .i64 4, .int .i64 6, .int .i64 12] 183) = W1 := ⟨_, rfl⟩
 have hB1 : Below w.heap.size w W1 := by rw [← hW1]; exact hB0.alloc (by omega) _
 have hk1 : W1.heap[w.heap.size]? = some (.cells i.cells 27) := by rw [← hW1]; exact (Below.heap_alloc _ _ _ (by omega)).trans hk
 have hkm : W1.heap[w.heap.size + 1]? = some (.cells #[.int .i64 1, .int .i64 2, .int .i64 3, .int .i64 4, .int .i64 6, .int .i64 12] 183) := by
  rw [← hW1, ← hz]; exact heap_alloc_new W0 _
 have c6 := Lib.cell_of_heap hk1 6
 have c7 := Lib.cell_of_heap hk1 7
 have c8 := Lib.cell_of_heap hk1 8
 have c9 := Lib.cell_of_heap hk1 9
 have c10 := Lib.cell_of_heap hk1 10
 have c11 := Lib.cell_of_heap hk1 11
 have c12 := Lib.cell_of_heap hk1 12
 have c13 := Lib.cell_of_heap hk1 13
 have c14 := Lib.cell_of_heap hk1 14
 simp at c6 c7 c8 c9 c10 c11 c12 c13 c14
 have HB1 := Lib.hid hB1
 have HKM := Lib.hid hkm
 obtain ⟨z1, z2, z3, z4, z5, z6, z7, z8, z9⟩ := hs
 have hsz : W0.heap.size = w.heap.size + 1 := hz
 have q1 : decide (cmpI (vl i.fn) 0 ≤ 0) = false := decide_eq_false (by rw [cmpI_le]; omega)
 have q2 : decide (cmpI (vl i.cn) 0 < 0) = true := decide_eq_true (by rw [cmpI_lt]; omega)
 clear hk hB0 hz hk1 hkm hB1 h1 h2
 unfold Inst.enc Inst.cells at *
 go_enter Tryz.func77, Tryz.ntmps77
 go_wp2_with fail
 first
 | go_region_with (first
    | (go_at_call_of 133 [Value.agg #[Value.string i.fn, Value.string i.fd]]; refine (isign_any i.fn i.fd (by omega) W1.drew).mono ?_; rintro e w1 ⟨rfl, b1⟩; have d6 := keepc c6 b1; have d7 := keepc c7 b1; have d8 := keepc c8 b1; have d9 := keepc c9 b1; have d10 := keepc c10 b1; have d11 := keepc c11 b1; have d12 := keepc c12 b1; have d13 := keepc c13 b1; have d14 := keepc c14 b1; have HB2 := Lib.hid (HB1.out.drew.trans (b1.mono HB1.out.size)); have HKM1 := Lib.hid ((b1.block (w.heap.size + 1) (Array.getElem?_eq_some_iff.1 HKM.out).1).trans HKM.out); clear b1)
    | (go_at_call_of 133 [Value.agg #[Value.string i.cn, Value.string i.cd]]; refine (isign_any i.cn i.cd (by omega) w1).mono ?_; rintro e w2 ⟨rfl, b2⟩; have g6 := keepc d6 b2; have g7 := keepc d7 b2; have g8 := keepc d8 b2; have g9 := keepc d9 b2; have g10 := keepc d10 b2; have g11 := keepc d11 b2; have g12 := keepc d12 b2; have g13 := keepc d13 b2; have g14 := keepc d14 b2; have HB3 := Lib.hid (HB2.out.trans (b2.mono HB2.out.size)); have HKM2 := Lib.hid ((b2.block (w.heap.size + 1) (Array.getElem?_eq_some_iff.1 HKM1.out).1).trans HKM1.out); clear b2))
 | fail "the region fell"
 all_goals
  go_wp2_with fail
  go_ret
  exact ⟨rfl, HB3.out⟩
theorem bond_c (i : Inst) (hs : i.sized) (h1 : 0 < vl i.fn) (h2 : 0 ≤ vl i.cn) (h3 : i.months ∉ monthsL) (w : World) :
 Calls Tryz.prog 77 #[i.enc] w fun e w' => e = .returned (.int .i64 2) ∧ Below w.heap.size w w' := by
 obtain ⟨W0, hW0, hB0, hz, hk⟩ := ibox i w
 obtain ⟨W1, hW1⟩ : ∃ W1, W0.alloc (.cells #[.int .i64 1, .int .i64 2, .int .i64 3, .int .i64 4, .int .i64 6, .int .i64 12] 183) = W1 := ⟨_, rfl⟩
 have hB1 : Below w.heap.size w W1 := by rw [← hW1]; exact hB0.alloc (by omega) _
 have hk1 : W1.heap[w.heap.size]? = some (.cells i.cells 27) := by rw [← hW1]; exact (Below.heap_alloc _ _ _ (by omega)).trans hk
 have hkm : W1.heap[w.heap.size + 1]? = some (.cells #[.int .i64 1, .int .i64 2, .int .i64 3, .int .i64 4, .int .i64 6, .int .i64 12] 183) := by
  rw [← hW1, ← hz]; exact heap_alloc_new W0 _
 have c6 := Lib.cell_of_heap hk1 6
 have c7 := Lib.cell_of_heap hk1 7
 have c8 := Lib.cell_of_heap hk1 8
 have c9 := Lib.cell_of_heap hk1 9
 have c10 := Lib.cell_of_heap hk1 10
 have c11 := Lib.cell_of_heap hk1 11
 have c12 := Lib.cell_of_heap hk1 12
 have c13 := Lib.cell_of_heap hk1 13
 have c14 := Lib.cell_of_heap hk1 14
 simp at c6 c7 c8 c9 c10 c11 c12 c13 c14
 have HB1 := Lib.hid hB1
 have HKM := Lib.hid hkm
 obtain ⟨z1, z2, z3, z4, z5, z6, z7, z8, z9⟩ := hs
 have hsz : W0.heap.size = w.heap.size + 1 := hz
 have q1 : decide (cmpI (vl i.fn) 0 ≤ 0) = false := decide_eq_false (by rw [cmpI_le]; omega)
 have q2 : decide (cmpI (vl i.cn) 0 < 0) = false := decide_eq_false (by rw [cmpI_lt]; omega)
 have H3 : Hid ((monthsL.take 6).contains i.months = false) := by rw [Hid, ← Bool.not_eq_true, List.contains_iff_mem]; exact h3
 clear hk hB0 hz hk1 hkm hB1 h1 h2 h3
 unfold Inst.enc Inst.cells at *
 go_enter Tryz.func77, Tryz.ntmps77
 go_wp2_with fail
 first
 | go_region_with (first
    | (go_at_call_of 133 [Value.agg #[Value.string i.fn, Value.string i.fd]]; refine (isign_any i.fn i.fd (by omega) W1.drew).mono ?_; rintro e w1 ⟨rfl, b1⟩; have d6 := keepc c6 b1; have d7 := keepc c7 b1; have d8 := keepc c8 b1; have d9 := keepc c9 b1; have d10 := keepc c10 b1; have d11 := keepc c11 b1; have d12 := keepc c12 b1; have d13 := keepc c13 b1; have d14 := keepc c14 b1; have HB2 := Lib.hid (HB1.out.drew.trans (b1.mono HB1.out.size)); have HKM1 := Lib.hid ((b1.block (w.heap.size + 1) (Array.getElem?_eq_some_iff.1 HKM.out).1).trans HKM.out); clear b1)
    | (go_at_call_of 133 [Value.agg #[Value.string i.cn, Value.string i.cd]]; refine (isign_any i.cn i.cd (by omega) w1).mono ?_; rintro e w2 ⟨rfl, b2⟩; have g6 := keepc d6 b2; have g7 := keepc d7 b2; have g8 := keepc d8 b2; have g9 := keepc d9 b2; have g10 := keepc d10 b2; have g11 := keepc d11 b2; have g12 := keepc d12 b2; have g13 := keepc d13 b2; have g14 := keepc d14 b2; have HB3 := Lib.hid (HB2.out.trans (b2.mono HB2.out.size)); have HKM2 := Lib.hid ((b2.block (w.heap.size + 1) (Array.getElem?_eq_some_iff.1 HKM1.out).1).trans HKM1.out); clear b2)
    | (go_at_call 134; refine (Tryz.slices_Contains_int (w.heap.size + 1) 0 6 6 monthsL i.months w2 (by decide) (by decide) (fun j hj => by rw [Lib.cell_of_heap HKM2.out]; match j, hj with | 0, _ => rfl | 1, _ => rfl | 2, _ => rfl | 3, _ => rfl | 4, _ => rfl | 5, _ => rfl)).mono ?_; rintro e w3 ⟨rfl, rfl⟩; rw [show (monthsL.take 6).contains i.months = false from H3.out]))
 | fail "the region fell"
 all_goals
  go_wp2_with fail
  go_ret
  exact ⟨rfl, HB3.out⟩
theorem bond_d (i : Inst) (hs : i.sized) (h1 : 0 < vl i.fn) (h2 : 0 ≤ vl i.cn) (h3 : i.months ∈ monthsL) (h4 : ¬ 1 ≤ i.count) (w : World) :
 Calls Tryz.prog 77 #[i.enc] w fun e w' => e = .returned (.int .i64 2) ∧ Below w.heap.size w w' := by
 obtain ⟨W0, hW0, hB0, hz, hk⟩ := ibox i w
 obtain ⟨W1, hW1⟩ : ∃ W1, W0.alloc (.cells #[.int .i64 1, .int .i64 2, .int .i64 3, .int .i64 4, .int .i64 6, .int .i64 12] 183) = W1 := ⟨_, rfl⟩
 have hB1 : Below w.heap.size w W1 := by rw [← hW1]; exact hB0.alloc (by omega) _
 have hk1 : W1.heap[w.heap.size]? = some (.cells i.cells 27) := by rw [← hW1]; exact (Below.heap_alloc _ _ _ (by omega)).trans hk
 have hkm : W1.heap[w.heap.size + 1]? = some (.cells #[.int .i64 1, .int .i64 2, .int .i64 3, .int .i64 4, .int .i64 6, .int .i64 12] 183) := by
  rw [← hW1, ← hz]; exact heap_alloc_new W0 _
 have c6 := Lib.cell_of_heap hk1 6
 have c7 := Lib.cell_of_heap hk1 7
 have c8 := Lib.cell_of_heap hk1 8
 have c9 := Lib.cell_of_heap hk1 9
 have c10 := Lib.cell_of_heap hk1 10
 have c11 := Lib.cell_of_heap hk1 11
 have c12 := Lib.cell_of_heap hk1 12
 have c13 := Lib.cell_of_heap hk1 13
 have c14 := Lib.cell_of_heap hk1 14
 simp at c6 c7 c8 c9 c10 c11 c12 c13 c14
 have HB1 := Lib.hid hB1
 have HKM := Lib.hid hkm
 obtain ⟨z1, z2, z3, z4, z5, z6, z7, z8, z9⟩ := hs
 have hsz : W0.heap.size = w.heap.size + 1 := hz
 have q1 : decide (cmpI (vl i.fn) 0 ≤ 0) = false := decide_eq_false (by rw [cmpI_le]; omega)
 have q2 : decide (cmpI (vl i.cn) 0 < 0) = false := decide_eq_false (by rw [cmpI_lt]; omega)
 have H3 : Hid ((monthsL.take 6).contains i.months = true) := by rw [Hid, List.contains_iff_mem]; exact h3
 have q3 : decide (i.count < 1) = true := decide_eq_true (by omega)
 clear hk hB0 hz hk1 hkm hB1 h1 h2 h3 h4
 unfold Inst.enc Inst.cells at *
 go_enter Tryz.func77, Tryz.ntmps77
 go_wp2_with fail
 first
 | go_region_with (first
    | (go_at_call_of 133 [Value.agg #[Value.string i.fn, Value.string i.fd]]; refine (isign_any i.fn i.fd (by omega) W1.drew).mono ?_; rintro e w1 ⟨rfl, b1⟩; have d6 := keepc c6 b1; have d7 := keepc c7 b1; have d8 := keepc c8 b1; have d9 := keepc c9 b1; have d10 := keepc c10 b1; have d11 := keepc c11 b1; have d12 := keepc c12 b1; have d13 := keepc c13 b1; have d14 := keepc c14 b1; have HB2 := Lib.hid (HB1.out.drew.trans (b1.mono HB1.out.size)); have HKM1 := Lib.hid ((b1.block (w.heap.size + 1) (Array.getElem?_eq_some_iff.1 HKM.out).1).trans HKM.out); clear b1)
    | (go_at_call_of 133 [Value.agg #[Value.string i.cn, Value.string i.cd]]; refine (isign_any i.cn i.cd (by omega) w1).mono ?_; rintro e w2 ⟨rfl, b2⟩; have g6 := keepc d6 b2; have g7 := keepc d7 b2; have g8 := keepc d8 b2; have g9 := keepc d9 b2; have g10 := keepc d10 b2; have g11 := keepc d11 b2; have g12 := keepc d12 b2; have g13 := keepc d13 b2; have g14 := keepc d14 b2; have HB3 := Lib.hid (HB2.out.trans (b2.mono HB2.out.size)); have HKM2 := Lib.hid ((b2.block (w.heap.size + 1) (Array.getElem?_eq_some_iff.1 HKM1.out).1).trans HKM1.out); clear b2)
    | (go_at_call 134; refine (Tryz.slices_Contains_int (w.heap.size + 1) 0 6 6 monthsL i.months w2 (by decide) (by decide) (fun j hj => by rw [Lib.cell_of_heap HKM2.out]; match j, hj with | 0, _ => rfl | 1, _ => rfl | 2, _ => rfl | 3, _ => rfl | 4, _ => rfl | 5, _ => rfl)).mono ?_; rintro e w3 ⟨rfl, rfl⟩; rw [show (monthsL.take 6).contains i.months = true from H3.out]))
 | fail "the region fell"
 all_goals
  go_wp2_with fail
  go_ret
  exact ⟨rfl, HB3.out⟩
theorem bond_e (i : Inst) (hs : i.sized) (h1 : 0 < vl i.fn) (h2 : 0 ≤ vl i.cn) (h3 : i.months ∈ monthsL) (h4 : 1 ≤ i.count) (h5 : ¬ i.count ≤ 5) (w : World) :
 Calls Tryz.prog 77 #[i.enc] w fun e w' => e = .returned (.int .i64 2) ∧ Below w.heap.size w w' := by
 obtain ⟨W0, hW0, hB0, hz, hk⟩ := ibox i w
 obtain ⟨W1, hW1⟩ : ∃ W1, W0.alloc (.cells #[.int .i64 1, .int .i64 2, .int .i64 3, .int .i64 4, .int .i64 6, .int .i64 12] 183) = W1 := ⟨_, rfl⟩
 have hB1 : Below w.heap.size w W1 := by rw [← hW1]; exact hB0.alloc (by omega) _
 have hk1 : W1.heap[w.heap.size]? = some (.cells i.cells 27) := by rw [← hW1]; exact (Below.heap_alloc _ _ _ (by omega)).trans hk
 have hkm : W1.heap[w.heap.size + 1]? = some (.cells #[.int .i64 1, .int .i64 2, .int .i64 3, .int .i64 4, .int .i64 6, .int .i64 12] 183) := by
  rw [← hW1, ← hz]; exact heap_alloc_new W0 _
 have c6 := Lib.cell_of_heap hk1 6
 have c7 := Lib.cell_of_heap hk1 7
 have c8 := Lib.cell_of_heap hk1 8
 have c9 := Lib.cell_of_heap hk1 9
 have c10 := Lib.cell_of_heap hk1 10
 have c11 := Lib.cell_of_heap hk1 11
 have c12 := Lib.cell_of_heap hk1 12
 have c13 := Lib.cell_of_heap hk1 13
 have c14 := Lib.cell_of_heap hk1 14
 simp at c6 c7 c8 c9 c10 c11 c12 c13 c14
 have HB1 := Lib.hid hB1
 have HKM := Lib.hid hkm
 obtain ⟨z1, z2, z3, z4, z5, z6, z7, z8, z9⟩ := hs
 have hsz : W0.heap.size = w.heap.size + 1 := hz
 have q1 : decide (cmpI (vl i.fn) 0 ≤ 0) = false := decide_eq_false (by rw [cmpI_le]; omega)
 have q2 : decide (cmpI (vl i.cn) 0 < 0) = false := decide_eq_false (by rw [cmpI_lt]; omega)
 have H3 : Hid ((monthsL.take 6).contains i.months = true) := by rw [Hid, List.contains_iff_mem]; exact h3
 have q3 : decide (i.count < 1) = false := decide_eq_false (by omega)
 have q4 : decide (5 < i.count) = true := decide_eq_true (by omega)
 clear hk hB0 hz hk1 hkm hB1 h1 h2 h3 h4 h5
 unfold Inst.enc Inst.cells at *
 go_enter Tryz.func77, Tryz.ntmps77
 go_wp2_with fail
 first
 | go_region_with (first
    | (go_at_call_of 133 [Value.agg #[Value.string i.fn, Value.string i.fd]]; refine (isign_any i.fn i.fd (by omega) W1.drew).mono ?_; rintro e w1 ⟨rfl, b1⟩; have d6 := keepc c6 b1; have d7 := keepc c7 b1; have d8 := keepc c8 b1; have d9 := keepc c9 b1; have d10 := keepc c10 b1; have d11 := keepc c11 b1; have d12 := keepc c12 b1; have d13 := keepc c13 b1; have d14 := keepc c14 b1; have HB2 := Lib.hid (HB1.out.drew.trans (b1.mono HB1.out.size)); have HKM1 := Lib.hid ((b1.block (w.heap.size + 1) (Array.getElem?_eq_some_iff.1 HKM.out).1).trans HKM.out); clear b1)
    | (go_at_call_of 133 [Value.agg #[Value.string i.cn, Value.string i.cd]]; refine (isign_any i.cn i.cd (by omega) w1).mono ?_; rintro e w2 ⟨rfl, b2⟩; have g6 := keepc d6 b2; have g7 := keepc d7 b2; have g8 := keepc d8 b2; have g9 := keepc d9 b2; have g10 := keepc d10 b2; have g11 := keepc d11 b2; have g12 := keepc d12 b2; have g13 := keepc d13 b2; have g14 := keepc d14 b2; have HB3 := Lib.hid (HB2.out.trans (b2.mono HB2.out.size)); have HKM2 := Lib.hid ((b2.block (w.heap.size + 1) (Array.getElem?_eq_some_iff.1 HKM1.out).1).trans HKM1.out); clear b2)
    | (go_at_call 134; refine (Tryz.slices_Contains_int (w.heap.size + 1) 0 6 6 monthsL i.months w2 (by decide) (by decide) (fun j hj => by rw [Lib.cell_of_heap HKM2.out]; match j, hj with | 0, _ => rfl | 1, _ => rfl | 2, _ => rfl | 3, _ => rfl | 4, _ => rfl | 5, _ => rfl)).mono ?_; rintro e w3 ⟨rfl, rfl⟩; rw [show (monthsL.take 6).contains i.months = true from H3.out]))
 | fail "the region fell"
 all_goals
  go_wp2_with fail
  go_ret
  exact ⟨rfl, HB3.out⟩
theorem bond_f (i : Inst) (hs : i.sized) (h1 : 0 < vl i.fn) (h2 : 0 ≤ vl i.cn) (h3 : i.months ∈ monthsL) (h4 : 1 ≤ i.count) (h5 : i.count ≤ 5) (h6 : i.other ≠ ⟨#[]⟩) (w : World) :
 Calls Tryz.prog 77 #[i.enc] w fun e w' => e = .returned (.int .i64 1) ∧ Below w.heap.size w w' := by
 obtain ⟨W0, hW0, hB0, hz, hk⟩ := ibox i w
 obtain ⟨W1, hW1⟩ : ∃ W1, W0.alloc (.cells #[.int .i64 1, .int .i64 2, .int .i64 3, .int .i64 4, .int .i64 6, .int .i64 12] 183) = W1 := ⟨_, rfl⟩
 have hB1 : Below w.heap.size w W1 := by rw [← hW1]; exact hB0.alloc (by omega) _
 have hk1 : W1.heap[w.heap.size]? = some (.cells i.cells 27) := by rw [← hW1]; exact (Below.heap_alloc _ _ _ (by omega)).trans hk
 have hkm : W1.heap[w.heap.size + 1]? = some (.cells #[.int .i64 1, .int .i64 2, .int .i64 3, .int .i64 4, .int .i64 6, .int .i64 12] 183) := by
  rw [← hW1, ← hz]; exact heap_alloc_new W0 _
 have c6 := Lib.cell_of_heap hk1 6
 have c7 := Lib.cell_of_heap hk1 7
 have c8 := Lib.cell_of_heap hk1 8
 have c9 := Lib.cell_of_heap hk1 9
 have c10 := Lib.cell_of_heap hk1 10
 have c11 := Lib.cell_of_heap hk1 11
 have c12 := Lib.cell_of_heap hk1 12
 have c13 := Lib.cell_of_heap hk1 13
 have c14 := Lib.cell_of_heap hk1 14
 simp at c6 c7 c8 c9 c10 c11 c12 c13 c14
 have HB1 := Lib.hid hB1
 have HKM := Lib.hid hkm
 obtain ⟨z1, z2, z3, z4, z5, z6, z7, z8, z9⟩ := hs
 have hsz : W0.heap.size = w.heap.size + 1 := hz
 have q1 : decide (cmpI (vl i.fn) 0 ≤ 0) = false := decide_eq_false (by rw [cmpI_le]; omega)
 have q2 : decide (cmpI (vl i.cn) 0 < 0) = false := decide_eq_false (by rw [cmpI_lt]; omega)
 have H3 : Hid ((monthsL.take 6).contains i.months = true) := by rw [Hid, List.contains_iff_mem]; exact h3
 have q3 : decide (i.count < 1) = false := decide_eq_false (by omega)
 have q4 : decide (5 < i.count) = false := decide_eq_false (by omega)
 have hoe : (i.other.toList == []) = false := by rw [str_empty, decide_eq_false h6]
 clear hk hB0 hz hk1 hkm hB1 h1 h2 h3 h4 h5 h6
 unfold Inst.enc Inst.cells at *
 go_enter Tryz.func77, Tryz.ntmps77
 go_wp2_with fail
 first
 | go_region_with (first
    | (go_at_call_of 133 [Value.agg #[Value.string i.fn, Value.string i.fd]]; refine (isign_any i.fn i.fd (by omega) W1.drew).mono ?_; rintro e w1 ⟨rfl, b1⟩; have d6 := keepc c6 b1; have d7 := keepc c7 b1; have d8 := keepc c8 b1; have d9 := keepc c9 b1; have d10 := keepc c10 b1; have d11 := keepc c11 b1; have d12 := keepc c12 b1; have d13 := keepc c13 b1; have d14 := keepc c14 b1; have HB2 := Lib.hid (HB1.out.drew.trans (b1.mono HB1.out.size)); have HKM1 := Lib.hid ((b1.block (w.heap.size + 1) (Array.getElem?_eq_some_iff.1 HKM.out).1).trans HKM.out); clear b1)
    | (go_at_call_of 133 [Value.agg #[Value.string i.cn, Value.string i.cd]]; refine (isign_any i.cn i.cd (by omega) w1).mono ?_; rintro e w2 ⟨rfl, b2⟩; have g6 := keepc d6 b2; have g7 := keepc d7 b2; have g8 := keepc d8 b2; have g9 := keepc d9 b2; have g10 := keepc d10 b2; have g11 := keepc d11 b2; have g12 := keepc d12 b2; have g13 := keepc d13 b2; have g14 := keepc d14 b2; have HB3 := Lib.hid (HB2.out.trans (b2.mono HB2.out.size)); have HKM2 := Lib.hid ((b2.block (w.heap.size + 1) (Array.getElem?_eq_some_iff.1 HKM1.out).1).trans HKM1.out); clear b2)
    | (go_at_call 134; refine (Tryz.slices_Contains_int (w.heap.size + 1) 0 6 6 monthsL i.months w2 (by decide) (by decide) (fun j hj => by rw [Lib.cell_of_heap HKM2.out]; match j, hj with | 0, _ => rfl | 1, _ => rfl | 2, _ => rfl | 3, _ => rfl | 4, _ => rfl | 5, _ => rfl)).mono ?_; rintro e w3 ⟨rfl, rfl⟩; rw [show (monthsL.take 6).contains i.months = true from H3.out]))
 | fail "the region fell"
 all_goals
  go_wp2_with fail
  go_ret
  exact ⟨rfl, HB3.out⟩
theorem bond_g (i : Inst) (hs : i.sized) (h1 : 0 < vl i.fn) (h2 : 0 ≤ vl i.cn) (h3 : i.months ∈ monthsL) (h4 : 1 ≤ i.count) (h5 : i.count ≤ 5) (h6 : i.other = ⟨#[]⟩) (h7 : vl i.sn ≠ 0) (w : World) :
 Calls Tryz.prog 77 #[i.enc] w fun e w' => e = .returned (.int .i64 1) ∧ Below w.heap.size w w' := by
 obtain ⟨W0, hW0, hB0, hz, hk⟩ := ibox i w
 obtain ⟨W1, hW1⟩ : ∃ W1, W0.alloc (.cells #[.int .i64 1, .int .i64 2, .int .i64 3, .int .i64 4, .int .i64 6, .int .i64 12] 183) = W1 := ⟨_, rfl⟩
 have hB1 : Below w.heap.size w W1 := by rw [← hW1]; exact hB0.alloc (by omega) _
 have hk1 : W1.heap[w.heap.size]? = some (.cells i.cells 27) := by rw [← hW1]; exact (Below.heap_alloc _ _ _ (by omega)).trans hk
 have hkm : W1.heap[w.heap.size + 1]? = some (.cells #[.int .i64 1, .int .i64 2, .int .i64 3, .int .i64 4, .int .i64 6, .int .i64 12] 183) := by
  rw [← hW1, ← hz]; exact heap_alloc_new W0 _
 have c6 := Lib.cell_of_heap hk1 6
 have c7 := Lib.cell_of_heap hk1 7
 have c8 := Lib.cell_of_heap hk1 8
 have c9 := Lib.cell_of_heap hk1 9
 have c10 := Lib.cell_of_heap hk1 10
 have c11 := Lib.cell_of_heap hk1 11
 have c12 := Lib.cell_of_heap hk1 12
 have c13 := Lib.cell_of_heap hk1 13
 have c14 := Lib.cell_of_heap hk1 14
 simp at c6 c7 c8 c9 c10 c11 c12 c13 c14
 have HB1 := Lib.hid hB1
 have HKM := Lib.hid hkm
 obtain ⟨z1, z2, z3, z4, z5, z6, z7, z8, z9⟩ := hs
 have hsz : W0.heap.size = w.heap.size + 1 := hz
 have q1 : decide (cmpI (vl i.fn) 0 ≤ 0) = false := decide_eq_false (by rw [cmpI_le]; omega)
 have q2 : decide (cmpI (vl i.cn) 0 < 0) = false := decide_eq_false (by rw [cmpI_lt]; omega)
 have H3 : Hid ((monthsL.take 6).contains i.months = true) := by rw [Hid, List.contains_iff_mem]; exact h3
 have q3 : decide (i.count < 1) = false := decide_eq_false (by omega)
 have q4 : decide (5 < i.count) = false := decide_eq_false (by omega)
 have hoe : (i.other.toList == []) = true := by rw [str_empty, decide_eq_true h6]
 have q5 : (cmpI (vl i.sn) 0 == 0) = false := beq_eq_false_iff_ne.2 (fun e => h7 (cmpI_eq.1 e))
 have q5' : (cmpI (vl i.sn) 0 != 0) = true := by rw [bne, q5]; rfl
 clear hk hB0 hz hk1 hkm hB1 h1 h2 h3 h4 h5 h6 h7
 unfold Inst.enc Inst.cells at *
 go_enter Tryz.func77, Tryz.ntmps77
 go_wp2_with fail
 first
 | go_region_with (first
    | (go_at_call_of 133 [Value.agg #[Value.string i.fn, Value.string i.fd]]; refine (isign_any i.fn i.fd (by omega) W1.drew).mono ?_; rintro e w1 ⟨rfl, b1⟩; have d6 := keepc c6 b1; have d7 := keepc c7 b1; have d8 := keepc c8 b1; have d9 := keepc c9 b1; have d10 := keepc c10 b1; have d11 := keepc c11 b1; have d12 := keepc c12 b1; have d13 := keepc c13 b1; have d14 := keepc c14 b1; have HB2 := Lib.hid (HB1.out.drew.trans (b1.mono HB1.out.size)); have HKM1 := Lib.hid ((b1.block (w.heap.size + 1) (Array.getElem?_eq_some_iff.1 HKM.out).1).trans HKM.out); clear b1)
    | (go_at_call_of 133 [Value.agg #[Value.string i.cn, Value.string i.cd]]; refine (isign_any i.cn i.cd (by omega) w1).mono ?_; rintro e w2 ⟨rfl, b2⟩; have g6 := keepc d6 b2; have g7 := keepc d7 b2; have g8 := keepc d8 b2; have g9 := keepc d9 b2; have g10 := keepc d10 b2; have g11 := keepc d11 b2; have g12 := keepc d12 b2; have g13 := keepc d13 b2; have g14 := keepc d14 b2; have HB3 := Lib.hid (HB2.out.trans (b2.mono HB2.out.size)); have HKM2 := Lib.hid ((b2.block (w.heap.size + 1) (Array.getElem?_eq_some_iff.1 HKM1.out).1).trans HKM1.out); clear b2)
    | (go_at_call 134; refine (Tryz.slices_Contains_int (w.heap.size + 1) 0 6 6 monthsL i.months w2 (by decide) (by decide) (fun j hj => by rw [Lib.cell_of_heap HKM2.out]; match j, hj with | 0, _ => rfl | 1, _ => rfl | 2, _ => rfl | 3, _ => rfl | 4, _ => rfl | 5, _ => rfl)).mono ?_; rintro e w3 ⟨rfl, rfl⟩; rw [show (monthsL.take 6).contains i.months = true from H3.out]))
 | fail "the region fell"
 all_goals
  go_wp2_with fail
  refine (isign_any i.sn i.sd (by omega) w3).mono ?_
  rintro e w4 ⟨rfl, b4⟩
  go_wp2_with fail
  go_ret
  exact ⟨rfl, HB3.out.trans (b4.mono HB3.out.size)⟩
theorem chk_bad {P : Program} {f : FuncId} {args : Array Value} {w : World} {n : Int} {Q : Prop} (hn : n ≠ 0) (hQ : ¬ Q) (h : Calls P f args w fun e w' => e = .returned (.int .i64 n) ∧ Below w.heap.size w w') : Calls P f args w (ChkPost w Q) :=
 h.mono (by rintro e w' ⟨rfl, hb⟩; exact ChkPost.bad hn hQ hb)
theorem chk_good {P : Program} {f : FuncId} {args : Array Value} {w : World} {Q : Prop} (hQ : Q) (h : Calls P f args w fun e w' => e = .returned (.int .i64 0) ∧ Below w.heap.size w w') : Calls P f args w (ChkPost w Q) :=
 h.mono (by rintro e w' ⟨rfl, hb⟩; exact ChkPost.good hQ hb)
theorem bond_any (i : Inst) (hs : i.sized) (w : World) : Calls Tryz.prog 77 #[i.enc] w (ChkPost w (bondOk i)) := by
 by_cases h1 : 0 < vl i.fn
 case neg => exact chk_bad (by decide) (fun h => h1 h.1) (bond_a i hs h1 w)
 by_cases h2 : 0 ≤ vl i.cn
 case neg => exact chk_bad (by decide) (fun h => h2 h.2.1) (bond_b i hs h1 h2 w)
 by_cases h3 : i.months ∈ monthsL
 case neg => exact chk_bad (by decide) (fun h => h3 h.2.2.1) (bond_c i hs h1 h2 h3 w)
 by_cases h4 : 1 ≤ i.count
 case neg => exact chk_bad (by decide) (fun h => h4 h.2.2.2.1) (bond_d i hs h1 h2 h3 h4 w)
 by_cases h5 : i.count ≤ 5
 case neg => exact chk_bad (by decide) (fun h => h5 h.2.2.2.2.1) (bond_e i hs h1 h2 h3 h4 h5 w)
 by_cases h6 : i.other = ⟨#[]⟩
 case neg => exact chk_bad (by decide) (fun h => h6 h.2.2.2.2.2.1) (bond_f i hs h1 h2 h3 h4 h5 h6 w)
 by_cases h7 : vl i.sn = 0
 case neg => exact chk_bad (by decide) (fun h => h7 h.2.2.2.2.2.2) (bond_g i hs h1 h2 h3 h4 h5 h6 h7 w)
 exact chk_good ⟨h1, h2, h3, h4, h5, h6, h7⟩ (bond_ok i hs ⟨h1, h2, h3, h4, h5, h6, h7⟩ w)
def endOk (i : Inst) (ends : Bool) : Prop := (i.matures = 0 ∧ ends = false) ∨ (i.matures ≠ 0 ∧ okDay i.matures ∧ i.issued < i.matures)
structure ChkAll (i : Inst) (ends : Bool) (P : Prop) : Prop where
 id : nameOk i.id = true
 kind : 1 ≤ i.kind ∧ i.kind ≤ 5
 cur : codeOk i.cur = true
 places : 0 ≤ i.places ∧ i.places ≤ 12
 issued : okDay i.issued
 matures : endOk i ends
 n1 : numchk i.fn i.fd = 0
 n2 : numchk i.cn i.cd = 0
 n3 : numchk i.sn i.sd = 0
 own : P
theorem iCheck_kind (i : Inst) (hs : i.sized) (hkd : ¬ (1 ≤ i.kind ∧ i.kind ≤ 5)) (w : World) (ht : Tabs w) : Calls Tryz.prog 24 #[i.enc] w (ChkPost w i.ok) := by
 obtain ⟨W0, hW0, hB0, hz, hk⟩ := ibox i w
 obtain ⟨c0, c1, c2, c3, c4, c5, c6, c7, c8, c9, c10, c11, c12, c13, c14⟩ := cells15 hk
 have HB := Lib.hid hB0
 have HK : Hid (InstBox W0 w.heap.size i) := hk
 obtain ⟨z1, z2, z3, z4, z5, z6, z7, z8, z9⟩ := hs
 have HT := Lib.hid ht
 have S1 := Lib.hid (fun W => Name_any i.id (by omega) W)
 have S2 := Lib.hid (fun W => isCode_any i.cur (by omega) W)
 have S3 := Lib.hid (fun W => ivalid_any i.issued W)
 have S4 := Lib.hid (fun W => ivalid_any i.matures W)
 have N1 := Lib.hid (fun W hW => inumber_any i.fn i.fd (by omega) (by omega) W hW)
 have N2 := Lib.hid (fun W hW => inumber_any i.cn i.cd (by omega) (by omega) W hW)
 have N3 := Lib.hid (fun W hW => inumber_any i.sn i.sd (by omega) (by omega) W hW)
 clear hk hB0 hz z1 z2 z3 z4 z5 z6 z7 z8 z9 ht
 have HKD := Lib.hid hkd
 clear hkd
 unfold Inst.enc Inst.cells at *
 go_enter Tryz.func24, Tryz.ntmps24
 go_wp2_with fail
 refine (S1.out W0).mono ?_
 rintro e w1 ⟨rfl, b1⟩
 have hk1 := HK.out.below b1
 replace HB := Lib.hid (HB.out.trans (b1.mono HB.out.size))
 clear c0 c1 c2 c3 c4 c5 c6 c7 c8 c9 c10 c11 c12 c13 c14
 obtain ⟨c0, c1, c2, c3, c4, c5, c6, c7, c8, c9, c10, c11, c12, c13, c14⟩ := cells15 hk1
 replace HK := Lib.hid hk1
 clear b1 hk1 S1 hW0
 by_cases h1 : nameOk i.id = true
 case neg =>
  rw [Bool.not_eq_true] at h1
  rw [h1]
  have H := Lib.hid h1
  clear h1
  go_wp2_with fail
  go_ret
  exact ChkPost.bad (by decide) (fun h => by have := h.id; rw [H.out] at this; cases this) HB.out
 rw [h1]
 have Hh1 := Lib.hid h1
 clear h1
 by_cases h2 : i.kind < 1
 ·have t2 : decide (i.kind < 1) = true := decide_eq_true h2
  have H := Lib.hid h2
  clear h2
  go_wp2_with fail
  go_ret
  exact ChkPost.bad (by decide) (fun h => HKD.out h.kind) HB.out
 have t2 : decide (i.kind < 1) = false := decide_eq_false h2
 have t3 : decide (5 < i.kind) = true := decide_eq_true (by have := HKD.out; omega)
 clear h2
 go_wp2_with fail
 go_ret
 exact ChkPost.bad (by decide) (fun h => HKD.out h.kind) HB.out
def LoopN (i : Inst) (k : Nat) : Prop := (1 ≤ k → numchk i.fn i.fd = 0) ∧ (2 ≤ k → numchk i.cn i.cd = 0) ∧ (3 ≤ k → numchk i.sn i.sd = 0)
theorem iCheck_all (i : Inst) (hs : i.sized) (ends : Bool) (f : Nat) (P : Prop) (hen : ∀ args w, (callFunc f args).run Tryz.prog w = .ok (.enter f args) w)
 (hix : ∀ w, Sem.run Tryz.prog (Instr.index 94 (Value.agg ruleCells) (.int .i64 i.kind)) w = .ok (.agg #[.bool ends, .func (.func f) #[] #[]]) w)
 (hf : ∀ W, Calls Tryz.prog f #[i.enc] W (ChkPost W P)) (hkd : 1 ≤ i.kind ∧ i.kind ≤ 5) (w : World) (ht : Tabs w) :
 Calls Tryz.prog 24 #[i.enc] w (ChkPost w (ChkAll i ends P)) := by
 obtain ⟨W0, hW0, hB0, hz, hk⟩ := ibox i w
 obtain ⟨c0, c1, c2, c3, c4, c5, c6, c7, c8, c9, c10, c11, c12, c13, c14⟩ := cells15 hk
 have HB := Lib.hid hB0
 have HK : Hid (InstBox W0 w.heap.size i) := hk
 obtain ⟨z1, z2, z3, z4, z5, z6, z7, z8, z9⟩ := hs
 have HT := Lib.hid ht
 have S1 := Lib.hid (fun W => Name_any i.id (by omega) W)
 have S2 := Lib.hid (fun W => isCode_any i.cur (by omega) W)
 have S3 := Lib.hid (fun W => ivalid_any i.issued W)
 have S4 := Lib.hid (fun W => ivalid_any i.matures W)
 have N1 := Lib.hid (fun W hW => inumber_any i.fn i.fd (by omega) (by omega) W hW)
 have N2 := Lib.hid (fun W hW => inumber_any i.cn i.cd (by omega) (by omega) W hW)
 have N3 := Lib.hid (fun W hW => inumber_any i.sn i.sd (by omega) (by omega) W hW)
 clear hk hB0 hz z1 z2 z3 z4 z5 z6 z7 z8 z9 ht
 have HF := Lib.hid hf
 have HKD := Lib.hid hkd
 have q1 : decide (i.kind < 1) = false := decide_eq_false (by omega)
 have q2 : decide (5 < i.kind) = false := decide_eq_false (by omega)
 clear hf hkd
 unfold Inst.enc Inst.cells at *
 go_enter Tryz.func24, Tryz.ntmps24
 go_wp2_with fail
 refine (S1.out W0).mono ?_
 rintro e w2 ⟨rfl, b1⟩
 have hk1 := HK.out.below b1
 replace HB := Lib.hid (HB.out.trans (b1.mono HB.out.size))
 clear c0 c1 c2 c3 c4 c5 c6 c7 c8 c9 c10 c11 c12 c13 c14
 obtain ⟨c0, c1, c2, c3, c4, c5, c6, c7, c8, c9, c10, c11, c12, c13, c14⟩ := cells15 hk1
 replace HK := Lib.hid hk1
 clear b1 hk1 S1 hW0
 by_cases h1 : nameOk i.id = true
 case neg =>
  rw [Bool.not_eq_true] at h1
  rw [h1]
  have H := Lib.hid h1
  clear h1
  go_wp2_with fail
  go_ret
  exact ChkPost.bad (by decide) (fun h => by have := h.id; rw [H.out] at this; cases this) HB.out
 rw [h1]
 have Hh1 := Lib.hid h1
 clear h1
 go_wp2_with fail
 refine (S2.out _).mono ?_
 rintro e w3 ⟨rfl, b1⟩
 have hk1 := HK.out.below b1
 replace HB := Lib.hid (HB.out.trans (b1.mono HB.out.size))
 clear c0 c1 c2 c3 c4 c5 c6 c7 c8 c9 c10 c11 c12 c13 c14
 obtain ⟨c0, c1, c2, c3, c4, c5, c6, c7, c8, c9, c10, c11, c12, c13, c14⟩ := cells15 hk1
 replace HK := Lib.hid hk1
 clear b1 hk1 S2
 by_cases h2 : codeOk i.cur = true
 case neg =>
  rw [Bool.not_eq_true] at h2
  rw [h2]
  have H := Lib.hid h2
  clear h2
  go_wp2_with fail
  go_ret
  exact ChkPost.bad (by decide) (fun h => by have := h.cur; rw [H.out] at this; cases this) HB.out
 rw [h2]
 have Hh2 := Lib.hid h2
 clear h2
 by_cases h3 : i.places < 0
 ·have t3 : decide (i.places < 0) = true := decide_eq_true h3
  have H := Lib.hid h3
  clear h3
  go_wp2_with fail
  go_ret
  exact ChkPost.bad (by decide) (fun h => by have := h.places; have := H.out; omega) HB.out
 by_cases h4 : 12 < i.places
 ·have t3 : decide (i.places < 0) = false := decide_eq_false h3
  have t4 : decide (12 < i.places) = true := decide_eq_true h4
  have H := Lib.hid h4
  clear h3 h4
  go_wp2_with fail
  go_ret
  exact ChkPost.bad (by decide) (fun h => by have := h.places; have := H.out; omega) HB.out
 have q3 : decide (i.places < 0) = false := decide_eq_false h3
 have q4 : decide (12 < i.places) = false := decide_eq_false h4
 have Hh3 := Lib.hid (show 0 ≤ i.places ∧ i.places ≤ 12 by omega)
 clear h3 h4
 go_wp2_with fail
 refine (S3.out _).mono ?_
 rintro e w3 ⟨rfl, rfl⟩
 clear S3
 by_cases h5 : okDay i.issued
 case neg =>
  rw [decide_eq_false h5]
  have H := Lib.hid h5
  clear h5
  go_wp2_with fail
  go_ret
  exact ChkPost.bad (by decide) (fun h => H.out h.issued) HB.out
 rw [decide_eq_true h5]
 have Hh5 := Lib.hid h5
 clear h5
 have HB2 := HB
 have HK2 := HK
 go_wp2_with fail
 go_cut [3] (fun v3 wx => ∃ (B : Nat) (wr : World), v3 = .pointer (some ⟨B, 0, none⟩) ∧ RuleBox wr B ends f ∧ InstBox wr w.heap.size i ∧ Below w.heap.size w wr ∧ wr = wx)
 case first =>
  have hl3 : w.heap.size < w3.heap.size := cell_lt c1
  have ka : (w3.drew.alloc (.cells #[.bool false, .nilFunc] 93)).cell? ⟨w.heap.size, 1, none⟩ = some (.int .i64 i.kind) := by
   rw [Lib.cell_of_heap (HK2.out.below ((Below.refl _ w3).drew.alloc (Nat.le_refl _) _))]; rfl
  go_region_with (go_at_call 46; refine (rules_any _).mono ?_; rintro e w4 ⟨rfl, b4⟩; have kk : InstBox w4 w.heap.size i := (by first | exact (show InstBox w3.drew _ _ from HK2.out).below b4 | exact (HK2.out.below ((Below.refl _ w3).drew.alloc (Nat.le_refl _) _)).below b4); have k1 : w4.cell? ⟨w.heap.size, 1, none⟩ = some (.int .i64 i.kind) := (by rw [Lib.cell_of_heap kk]; rfl); have k2 : (w4.alloc (.cells #[.bool false, .nilFunc] 93)).cell? ⟨w.heap.size, 1, none⟩ = some (.int .i64 i.kind) := (by rw [Lib.cell_of_heap (kk.below ((Below.refl _ w4).alloc (Nat.le_refl _) _))]; rfl); have nb : (w4.alloc (.cells #[.bool false, .nilFunc] 93)).heap[w4.heap.size]? = some (.cells #[.bool false, .nilFunc] 93 (0, 0)) := heap_alloc_new w4 _; have n0 := Lib.cell_of_heap nb 0; have n1 := Lib.cell_of_heap nb 1; have n2 := Lib.frozen_of_heap nb 0; have n3 := Lib.frozen_of_heap nb 1; simp at n0 n1 n2 n3; have NB := Lib.hid nb; clear nb; try (have rb : w4.heap[w3.heap.size]? = some (.cells #[.bool false, .nilFunc] 93 (0, 0)) := (b4.block w3.heap.size (by simp)).trans (heap_alloc_new w3.drew _); have r0 := Lib.cell_of_heap rb 0; have r1 := Lib.cell_of_heap rb 1; have r2 := Lib.frozen_of_heap rb 0; have r3 := Lib.frozen_of_heap rb 1; simp at r0 r1 r2 r3; have RB := Lib.hid rb; clear rb); have KK := Lib.hid kk; have B4 := Lib.hid b4; clear kk b4)
  all_goals (first | go_wp2_with fail | skip)
  all_goals go_meet
  all_goals first
   | (refine ⟨w4.heap.size, _, rfl, heap_alloc_new w4 _, (show InstBox w4 w.heap.size i from by first | exact KK.out | assumption).below ((Below.refl _ w4).alloc (Nat.le_refl _) _), ?_, rfl⟩
      have q := HB2.out.drew.trans ((show Below w3.drew.heap.size w3.drew w4 from by first | exact B4.out | assumption).mono HB2.out.size)
      exact q.alloc q.size _)
   | (refine ⟨w3.heap.size, _, rfl, set2 RB.out _ _, (Below.heap_setCell _ _ _ _ (by simp; omega)).trans ((Below.heap_setCell _ _ _ _ (by simp; omega)).trans KK.out), ?_, rfl⟩
      have q0 := HB2.out.drew.alloc HB2.out.size (Obj.cells #[.bool false, .nilFunc] 93)
      have q := q0.trans (B4.out.mono (by have := HB2.out.size; simp; omega))
      exact (q.setCell (p := ⟨w3.heap.size, 0, none⟩) (by simp; have := HB2.out.size; omega) _).setCell (p := ⟨w3.heap.size, 1, none⟩) (by simp; have := HB2.out.size; omega) _)
 case rest =>
  obtain ⟨B, wr, rfl, hRB, hIB, hBB, rfl⟩ := hcut
  obtain ⟨d0, d1, d2, d3, d4, d5, d6, d7, d8, d9, d10, d11, d12, d13, d14⟩ := cells15 hIB
  have r0 := Lib.cell_of_heap hRB 0
  have r1 := Lib.cell_of_heap hRB 1
  simp at r0 r1
  have HRB := Lib.hid hRB
  have HIB := Lib.hid hIB
  have HBB := Lib.hid hBB
  clear hRB hIB hBB HB HK HB2 HK2
  clear c0 c1 c2 c3 c4 c5 c6 c7 c8 c9 c10 c11 c12 c13 c14
  go_upto_region 12 with fail
  obtain ⟨bad, HM⟩ : ∃ bad : Bool, Hid ((bad = true ∧ ¬ endOk i ends) ∨ (bad = false ∧ endOk i ends)) := by
   by_cases h : endOk i ends
   ·exact ⟨false, .inr ⟨rfl, h⟩⟩
   ·exact ⟨true, .inl ⟨rfl, h⟩⟩
  go_cut [68] (fun v wx => v = .bool bad ∧ wr = wx)
  case first =>
   have hgood : endOk i ends → bad = false := fun e => HM.out.elim (fun h => absurd e h.2) (fun h => h.1)
   have hbad : ¬ endOk i ends → bad = true := fun e => HM.out.elim (fun h => h.1) (fun h => absurd h.2 e)
   clear HM
   unfold endOk at hgood hbad
   by_cases m0 : i.matures = 0
   ·rw [m0] at d5
    cases ends
    ·have hm := hgood (.inl ⟨m0, rfl⟩)
     subst hm
     clear hgood hbad
     clear m0
     go_wp2_with fail
     go_meet
     exact ⟨rfl, rfl⟩
    ·have hm := hbad (by rintro (h | h); exact absurd h.2 (by decide); exact h.1 m0)
     subst hm
     clear hgood hbad
     clear m0
     go_wp2_with fail
     go_meet
     exact ⟨rfl, rfl⟩
   ·have t1 : (i.matures == 0) = false := beq_eq_false_iff_ne.2 m0
    have t1' : (i.matures != 0) = true := by rw [bne, t1]; rfl
    by_cases m1 : okDay i.matures
    ·by_cases m2 : i.matures ≤ i.issued
     ·have t2 : decide (i.matures ≤ i.issued) = true := decide_eq_true m2
      have hm := hbad (by rintro (h | h); exact m0 h.1; have := h.2.2; omega)
      subst hm
      clear hgood hbad
      clear m0 m2
      go_wp2_with fail
      refine (S4.out _).mono ?_
      rintro e w5 ⟨rfl, rfl⟩
      rw [decide_eq_true m1]
      go_wp2_with fail
      go_meet
      exact ⟨rfl, rfl⟩
     ·have t2 : decide (i.matures ≤ i.issued) = false := decide_eq_false m2
      have hm := hgood (.inr ⟨m0, m1, by omega⟩)
      subst hm
      clear hgood hbad
      clear m0 m2
      go_wp2_with fail
      refine (S4.out _).mono ?_
      rintro e w5 ⟨rfl, rfl⟩
      rw [decide_eq_true m1]
      go_wp2_with fail
      go_meet
      exact ⟨rfl, rfl⟩
    ·have hm := hbad (by rintro (h | h); exact m0 h.1; exact m1 h.2.1)
     subst hm
     clear hgood hbad
     clear m0
     go_wp2_with fail
     refine (S4.out _).mono ?_
     rintro e w5 ⟨rfl, rfl⟩
     rw [decide_eq_false m1]
     go_wp2_with fail
     go_meet
     exact ⟨rfl, rfl⟩
  case rest =>
   obtain ⟨rfl, rfl⟩ := hcut
   cases bad
   case true =>
    go_wp2_with fail
    go_ret
    exact ChkPost.bad (by decide) (fun h => HM.out.elim (fun x => x.2 h.matures) (fun x => Bool.noConfusion x.1)) HBB.out
   have HE : Hid (endOk i ends) := HM.out.elim (fun x => Bool.noConfusion x.1) (fun x => x.2)
   clear HM
   obtain ⟨W5, hW5⟩ : ∃ W5, wr.alloc (.cells (nsCells i) 25) = W5 := ⟨_, rfl⟩
   have kS : NsBox W5 wr.heap.size i := by rw [← hW5]; exact heap_alloc_new wr _
   have b5 : Below wr.heap.size wr W5 := by rw [← hW5]; exact (Below.refl _ wr).alloc (Nat.le_refl _) _
   have hsz : w.heap.size ≤ wr.heap.size := HBB.out.size
   have HS5 : Hid (LoopS w wr.heap.size B ends f i W5) := ⟨kS, HRB.out.below b5, HIB.out.below b5, HBB.out.trans (b5.mono hsz)⟩
   clear kS b5 S4 HRB HIB HBB
   clear r0 r1
   clear d0 d1 d2 d3 d4 d5 d10 d11 d12
   unfold nsCells at hW5
   go_wp2_with fail
   go_loopw [77] (fun v wx => ∃ k : Nat, v = .int .i64 (k : Int) ∧ k ≤ 3 ∧ LoopN i k ∧ LoopS w wr.heap.size B ends f i wx) (fun v _ => 3 - (intOf v).toNat)
   case atStart => exact ⟨0, rfl, by omega, ⟨fun h => by omega, fun h => by omega, fun h => by omega⟩, HS5.out⟩
   case round =>
    obtain ⟨k, rfl, hk3, hLN, hL⟩ := hrel
    clear HS5 hW5
    have n0 := Lib.cell_of_heap hL.ns 0
    have n1 := Lib.cell_of_heap hL.ns 1
    have n2 := Lib.cell_of_heap hL.ns 2
    have n3 := Lib.cell_of_heap hL.ns 3
    have n4 := Lib.cell_of_heap hL.ns 4
    have n5 := Lib.cell_of_heap hL.ns 5
    simp at n0 n1 n2 n3 n4 n5
    have HL := Lib.hid hL
    have HLN := Lib.hid hLN
    clear hLN
    rcases (show k = 0 ∨ k = 1 ∨ k = 2 ∨ k = 3 from by omega) with rfl | rfl | rfl | rfl
    ·clear hL
     go_wp2_with fail
     refine (N1.out _ (HT.out.below (HL.out.be.trans (((Below.refl _ _).alloc (Nat.le_refl _) _).mono HL.out.be.size)))).mono ?_
     rintro e w6 ⟨rfl, b6⟩
     have HL6 := Lib.hid ((HL.out.below ((Below.refl _ _).alloc (Nat.le_refl _) _)).below b6)
     clear b6
     by_cases hn : numchk i.fn i.fd = 0
     case neg =>
      have tn : (numchk i.fn i.fd == 0) = false := beq_eq_false_iff_ne.2 hn
      have tn' : (numchk i.fn i.fd != 0) = true := by rw [bne, tn]; rfl
      have H := Lib.hid hn
      clear hn
      go_wp2_with fail
      go_ret
      exact ChkPost.bad H.out (fun h => H.out h.n1) HL6.out.be
     have HN := Lib.hid hn
     rw [hn]
     clear hn
     go_wp2_with fail
     go_roundw
     case rel => exact ⟨1, rfl, by omega, ⟨fun _ => HN.out, fun h => by omega, fun h => by omega⟩, HL6.out⟩
     case measure => simp [intOf]
    ·clear hL
     go_wp2_with fail
     refine (N2.out _ (HT.out.below (HL.out.be.trans (((Below.refl _ _).alloc (Nat.le_refl _) _).mono HL.out.be.size)))).mono ?_
     rintro e w6 ⟨rfl, b6⟩
     have HL6 := Lib.hid ((HL.out.below ((Below.refl _ _).alloc (Nat.le_refl _) _)).below b6)
     clear b6
     by_cases hn : numchk i.cn i.cd = 0
     case neg =>
      have tn : (numchk i.cn i.cd == 0) = false := beq_eq_false_iff_ne.2 hn
      have tn' : (numchk i.cn i.cd != 0) = true := by rw [bne, tn]; rfl
      have H := Lib.hid hn
      clear hn
      go_wp2_with fail
      go_ret
      exact ChkPost.bad H.out (fun h => H.out h.n2) HL6.out.be
     have HN := Lib.hid hn
     rw [hn]
     clear hn
     go_wp2_with fail
     go_roundw
     case rel => exact ⟨2, rfl, by omega, ⟨fun _ => HLN.out.1 (by omega), fun _ => HN.out, fun h => by omega⟩, HL6.out⟩
     case measure => simp [intOf]
    ·clear hL
     go_wp2_with fail
     refine (N3.out _ (HT.out.below (HL.out.be.trans (((Below.refl _ _).alloc (Nat.le_refl _) _).mono HL.out.be.size)))).mono ?_
     rintro e w6 ⟨rfl, b6⟩
     have HL6 := Lib.hid ((HL.out.below ((Below.refl _ _).alloc (Nat.le_refl _) _)).below b6)
     clear b6
     by_cases hn : numchk i.sn i.sd = 0
     case neg =>
      have tn : (numchk i.sn i.sd == 0) = false := beq_eq_false_iff_ne.2 hn
      have tn' : (numchk i.sn i.sd != 0) = true := by rw [bne, tn]; rfl
      have H := Lib.hid hn
      clear hn
      go_wp2_with fail
      go_ret
      exact ChkPost.bad H.out (fun h => H.out h.n3) HL6.out.be
     have HN := Lib.hid hn
     rw [hn]
     clear hn
     go_wp2_with fail
     go_roundw
     case rel => exact ⟨3, rfl, by omega, ⟨fun _ => HLN.out.1 (by omega), fun _ => HLN.out.2.1 (by omega), fun _ => HN.out⟩, HL6.out⟩
     case measure => simp [intOf]
    ·have r0 := Lib.cell_of_heap hL.rb 0
     have r1 := Lib.cell_of_heap hL.rb 1
     simp at r0 r1
     obtain ⟨d0, d1, d2, d3, d4, d5, d6, d7, d8, d9, d10, d11, d12, d13, d14⟩ := cells15 hL.ib
     clear hL
     go_wp2_with fail
     refine (HF.out _).mono ?_
     rintro e w7 ⟨n, rfl, hn, b7⟩
     have HN := Lib.hid hn
     clear hn
     go_wp2_with fail
     go_ret
     exact ⟨n, rfl, HN.out.trans ⟨fun p => ⟨Hh1.out, HKD.out, Hh2.out, Hh3.out, Hh5.out, HE.out, HLN.out.1 (by omega), HLN.out.2.1 (by omega), HLN.out.2.2 (by omega), p⟩, fun h => h.own⟩, HL.out.be.trans (b7.mono HL.out.be.size)⟩
theorem ChkPost.iff {w : World} {P Q : Prop} {e : Ending} {w' : World} (h : ChkPost w P e w') (hq : P ↔ Q) : ChkPost w Q e w' := by
 obtain ⟨n, h1, h2, h3⟩ := h
 exact ⟨n, h1, h2.trans hq, h3⟩
theorem ChkAll.plain {i : Inst} (h2 : i.kind ≠ 2) (h5 : i.kind ≠ 5) : ChkAll i false (plainOk i) ↔ i.ok :=
 ⟨fun h => ⟨h.id, h.kind, h.cur, h.places, h.issued, h.matures.imp (fun x => ⟨x.1, h2, h5⟩) (fun x => x), h.n1, h.n2, h.n3, fun _ _ => h.own, fun e => absurd e h2, fun e => absurd e h5⟩,
  fun h => ⟨h.id, h.kind, h.cur, h.places, h.issued, h.matures.imp (fun x => ⟨x.1, rfl⟩) (fun x => x), h.n1, h.n2, h.n3, h.plain h2 h5⟩⟩
theorem ChkAll.bond {i : Inst} (h2 : i.kind = 2) : ChkAll i true (bondOk i) ↔ i.ok :=
 ⟨fun h => ⟨h.id, h.kind, h.cur, h.places, h.issued, .inr (h.matures.resolve_left (fun x => Bool.noConfusion x.2)), h.n1, h.n2, h.n3, fun e => absurd h2 e, fun _ => h.own, fun e => by omega⟩,
  fun h => ⟨h.id, h.kind, h.cur, h.places, h.issued, .inr (h.matures.resolve_left (fun x => x.2.1 h2)), h.n1, h.n2, h.n3, h.bond h2⟩⟩
theorem ChkAll.fwd {i : Inst} (h5 : i.kind = 5) : ChkAll i true (fwdOk i) ↔ i.ok :=
 ⟨fun h => ⟨h.id, h.kind, h.cur, h.places, h.issued, .inr (h.matures.resolve_left (fun x => Bool.noConfusion x.2)), h.n1, h.n2, h.n3, fun _ e => absurd h5 e, fun e => by omega, fun _ => h.own⟩,
  fun h => ⟨h.id, h.kind, h.cur, h.places, h.issued, .inr (h.matures.resolve_left (fun x => x.2.2 h5)), h.n1, h.n2, h.n3, h.fwd h5⟩⟩
theorem iCheck_any (i : Inst) (hs : i.sized) (w : World) (ht : Tabs w) : Calls Tryz.prog 24 #[i.enc] w (ChkPost w i.ok) := by
 by_cases hk : 1 ≤ i.kind ∧ i.kind ≤ 5
 case neg => exact iCheck_kind i hs hk w ht
 rcases (show i.kind = 1 ∨ i.kind = 2 ∨ i.kind = 3 ∨ i.kind = 4 ∨ i.kind = 5 from by omega) with hi | hi | hi | hi | hi
 ·exact (iCheck_all i hs false 76 _ (enters_of Tryz.func76 (by kernel_rfl) rfl) (ix_rule 1 _ _ (fun _ => by kernel_rfl) i hi) (fun W => plain_any i hs W) hk w ht).mono (fun _ _ h => h.iff (ChkAll.plain (by omega) (by omega)))
 ·exact (iCheck_all i hs true 77 _ (enters_of Tryz.func77 (by kernel_rfl) rfl) (ix_rule 2 _ _ (fun _ => by kernel_rfl) i hi) (fun W => bond_any i hs W) hk w ht).mono (fun _ _ h => h.iff (ChkAll.bond hi))
 ·exact (iCheck_all i hs false 76 _ (enters_of Tryz.func76 (by kernel_rfl) rfl) (ix_rule 3 _ _ (fun _ => by kernel_rfl) i hi) (fun W => plain_any i hs W) hk w ht).mono (fun _ _ h => h.iff (ChkAll.plain (by omega) (by omega)))
 ·exact (iCheck_all i hs false 76 _ (enters_of Tryz.func76 (by kernel_rfl) rfl) (ix_rule 4 _ _ (fun _ => by kernel_rfl) i hi) (fun W => plain_any i hs W) hk w ht).mono (fun _ _ h => h.iff (ChkAll.plain (by omega) (by omega)))
 ·exact (iCheck_all i hs true 78 _ (enters_of Tryz.func78 (by kernel_rfl) rfl) (ix_rule 5 _ _ (fun _ => by kernel_rfl) i hi) (fun W => forward_any i hs W) hk w ht).mono (fun _ _ h => h.iff (ChkAll.fwd hi))
end Go.Proofs.YtbkmhmaldljgmaaGreatDoor
