/-
  The walk of tranchelaw39.example. (Printed by gen_law2.py.)
-/
import Derived.Test.YtpgjmdggblnfkaaGreatDoorM40
set_option linter.unusedVariables false
set_option linter.unusedSimpArgs false
set_option maxHeartbeats 16000000
set_option maxRecDepth 100000
namespace Go.Proofs.YtpgjmdggblnfkaaGreatDoor
open Go.RowKit Tr Go.Shelf
abbrev instZero : Array Value := #[.string ⟨#[]⟩, .int .i64 0, .string ⟨#[]⟩, .int .i64 0, .int .i64 0, .int .i64 0, .string ⟨#[]⟩, .string ⟨#[]⟩, .string ⟨#[]⟩, .string ⟨#[]⟩, .int .i64 0, .int .i64 0, .string ⟨#[]⟩, .string ⟨#[]⟩, .string ⟨#[]⟩]
abbrev lotZero : Array Value := #[.string ⟨#[]⟩, .string ⟨#[]⟩, .int .i64 0, .int .i64 0, .string ⟨#[]⟩, .string ⟨#[]⟩, .string ⟨#[]⟩]
structure XG (w : World) (b : Nat) (W : World) : Prop where
 r0 : W.heap[w.heap.size]? = some (.cells instZero 27 (0, 0))
 r1 : W.heap[w.heap.size + 1]? = some (.cells lotZero 39 (0, 0))
 ib : W.heap[b]? = some (.cells #[.string ⟨#[98]⟩, .int .i64 2, .string ⟨#[85, 83, 68]⟩, .int .i64 0, .int .i64 19736, .int .i64 20102, .string ⟨#[49, 48, 48, 48]⟩, .string ⟨#[]⟩, .string ⟨#[]⟩, .string ⟨#[]⟩, .int .i64 12, .int .i64 3, .string ⟨#[]⟩, .string ⟨#[]⟩, .string ⟨#[]⟩] 27 (0, 0))
 be : Below w.heap.size w W
 lt : w.heap.size + 1 < b
theorem XG.below {w : World} {b : Nat} {W W' : World} (h : XG w b W) (hb : Below W.heap.size W W') : XG w b W' :=
 ⟨(hb.block _ (Array.getElem?_eq_some_iff.1 h.r0).1).trans h.r0, (hb.block _ (Array.getElem?_eq_some_iff.1 h.r1).1).trans h.r1, (hb.block _ (Array.getElem?_eq_some_iff.1 h.ib).1).trans h.ib, h.be.trans (hb.mono h.be.size), h.lt⟩
def C15 (b : Nat) (W : World) : Prop := W.cell? ⟨b, 0, none⟩ = some (.string ⟨#[98]⟩) ∧ W.cell? ⟨b, 1, none⟩ = some (.int .i64 2) ∧ W.cell? ⟨b, 2, none⟩ = some (.string ⟨#[85, 83, 68]⟩) ∧ W.cell? ⟨b, 3, none⟩ = some (.int .i64 0) ∧ W.cell? ⟨b, 4, none⟩ = some (.int .i64 19736) ∧ W.cell? ⟨b, 5, none⟩ = some (.int .i64 20102) ∧ W.cell? ⟨b, 6, none⟩ = some (.string ⟨#[49, 48, 48, 48]⟩) ∧ W.cell? ⟨b, 7, none⟩ = some (.string ⟨#[]⟩) ∧ W.cell? ⟨b, 8, none⟩ = some (.string ⟨#[]⟩) ∧ W.cell? ⟨b, 9, none⟩ = some (.string ⟨#[]⟩) ∧ W.cell? ⟨b, 10, none⟩ = some (.int .i64 12) ∧ W.cell? ⟨b, 11, none⟩ = some (.int .i64 3) ∧ W.cell? ⟨b, 12, none⟩ = some (.string ⟨#[]⟩) ∧ W.cell? ⟨b, 13, none⟩ = some (.string ⟨#[]⟩) ∧ W.cell? ⟨b, 14, none⟩ = some (.string ⟨#[]⟩)
theorem XG.c15 {w : World} {b : Nat} {W : World} (h : XG w b W) : C15 b W := ⟨Lib.cell_of_heap h.ib 0, Lib.cell_of_heap h.ib 1, Lib.cell_of_heap h.ib 2, Lib.cell_of_heap h.ib 3, Lib.cell_of_heap h.ib 4, Lib.cell_of_heap h.ib 5, Lib.cell_of_heap h.ib 6, Lib.cell_of_heap h.ib 7, Lib.cell_of_heap h.ib 8, Lib.cell_of_heap h.ib 9, Lib.cell_of_heap h.ib 10, Lib.cell_of_heap h.ib 11, Lib.cell_of_heap h.ib 12, Lib.cell_of_heap h.ib 13, Lib.cell_of_heap h.ib 14⟩
theorem day_g {w : World} {b : Nat} (W : World) (h : XG w b W) : Calls Tryz.prog 39 #[.int .i64 2024, .int .i64 1, .int .i64 15] W fun e wn => e = .returned (.int .i64 19737) ∧ XG w b wn ∧ C15 b wn := by
 refine (day_c W).mono ?_
 rintro e wn ⟨rfl, bn⟩
 exact ⟨rfl, h.below bn, (h.below bn).c15⟩
theorem fOf_1000 (w : World) (ht : Tabs w) : Calls Tryz.prog 22 #[.string ⟨#[49, 48, 48, 48]⟩] w fun e w' => e = .returned (.agg #[.string ⟨#[49, 48, 48, 48]⟩, .string ⟨#[]⟩]) ∧ Below w.heap.size w w' := by
 have := fOf_any ⟨#[49, 48, 48, 48]⟩ w (by show 4 ≤ _; omega) ht
 rw [v1000] at this
 exact this
structure X4 (w : World) (W : World) : Prop where
 r0 : W.heap[w.heap.size]? = some (.cells #[.string ⟨#[98]⟩, .int .i64 2, .string ⟨#[85, 83, 68]⟩, .int .i64 0, .int .i64 19736, .int .i64 20102, .string ⟨#[49, 48, 48, 48]⟩, .string ⟨#[]⟩, .string ⟨#[]⟩, .string ⟨#[]⟩, .int .i64 12, .int .i64 3, .string ⟨#[]⟩, .string ⟨#[]⟩, .string ⟨#[]⟩] 27 (0, 0))
 r1 : W.heap[w.heap.size + 1]? = some (.cells lotZero 39 (0, 0))
 be : Below w.heap.size w W
structure X5 (w : World) (W : World) : Prop where
 r0 : W.heap[w.heap.size]? = some (.cells #[.string ⟨#[98]⟩, .int .i64 2, .string ⟨#[85, 83, 68]⟩, .int .i64 0, .int .i64 19736, .int .i64 20102, .string ⟨#[49, 48, 48, 48]⟩, .string ⟨#[]⟩, .string ⟨#[]⟩, .string ⟨#[]⟩, .int .i64 12, .int .i64 3, .string ⟨#[]⟩, .string ⟨#[]⟩, .string ⟨#[]⟩] 27 (0, 0))
 r1 : W.heap[w.heap.size + 1]? = some (.cells #[.string ⟨#[120, 47, 49]⟩, .string ⟨#[98]⟩, .int .i64 19737, .int .i64 19737, .string ⟨#[49, 48]⟩, .string ⟨#[57, 56, 48, 48]⟩, .string ⟨#[]⟩] 39 (0, 0))
 be : Below w.heap.size w W
theorem put15 {w : World} {b : Nat} {a0 a1 a2 a3 a4 a5 a6 a7 a8 a9 a10 a11 a12 a13 a14 : Value} {t : TypeId} {m : Nat × Nat} (h : w.heap[b]? = some (.cells #[a0, a1, a2, a3, a4, a5, a6, a7, a8, a9, a10, a11, a12, a13, a14] t m)) (x0 x1 x2 x3 x4 x5 x6 x7 x8 x9 x10 x11 x12 x13 x14 : Value) :
 (((((((((((((((w.setCell ⟨b, 0, none⟩ x0).setCell ⟨b, 1, none⟩ x1).setCell ⟨b, 2, none⟩ x2).setCell ⟨b, 3, none⟩ x3).setCell ⟨b, 4, none⟩ x4).setCell ⟨b, 5, none⟩ x5).setCell ⟨b, 6, none⟩ x6).setCell ⟨b, 7, none⟩ x7).setCell ⟨b, 8, none⟩ x8).setCell ⟨b, 9, none⟩ x9).setCell ⟨b, 10, none⟩ x10).setCell ⟨b, 11, none⟩ x11).setCell ⟨b, 12, none⟩ x12).setCell ⟨b, 13, none⟩ x13).setCell ⟨b, 14, none⟩ x14).heap[b]? = some (.cells #[x0, x1, x2, x3, x4, x5, x6, x7, x8, x9, x10, x11, x12, x13, x14] t m) := by
 simp [World.setCell, Array.getElem?_modify, h]
theorem below15 {w W : World} {b : Nat} (hb : w.heap.size ≤ b) (h : Below w.heap.size w W) (x0 x1 x2 x3 x4 x5 x6 x7 x8 x9 x10 x11 x12 x13 x14 : Value) :
 Below w.heap.size w (((((((((((((((W.setCell ⟨b, 0, none⟩ x0).setCell ⟨b, 1, none⟩ x1).setCell ⟨b, 2, none⟩ x2).setCell ⟨b, 3, none⟩ x3).setCell ⟨b, 4, none⟩ x4).setCell ⟨b, 5, none⟩ x5).setCell ⟨b, 6, none⟩ x6).setCell ⟨b, 7, none⟩ x7).setCell ⟨b, 8, none⟩ x8).setCell ⟨b, 9, none⟩ x9).setCell ⟨b, 10, none⟩ x10).setCell ⟨b, 11, none⟩ x11).setCell ⟨b, 12, none⟩ x12).setCell ⟨b, 13, none⟩ x13).setCell ⟨b, 14, none⟩ x14) :=
 (((((((((((((((h.setCell (p := ⟨b, 0, none⟩) hb x0).setCell (p := ⟨b, 1, none⟩) hb x1).setCell (p := ⟨b, 2, none⟩) hb x2).setCell (p := ⟨b, 3, none⟩) hb x3).setCell (p := ⟨b, 4, none⟩) hb x4).setCell (p := ⟨b, 5, none⟩) hb x5).setCell (p := ⟨b, 6, none⟩) hb x6).setCell (p := ⟨b, 7, none⟩) hb x7).setCell (p := ⟨b, 8, none⟩) hb x8).setCell (p := ⟨b, 9, none⟩) hb x9).setCell (p := ⟨b, 10, none⟩) hb x10).setCell (p := ⟨b, 11, none⟩) hb x11).setCell (p := ⟨b, 12, none⟩) hb x12).setCell (p := ⟨b, 13, none⟩) hb x13).setCell (p := ⟨b, 14, none⟩) hb x14)
theorem far15 {W : World} {b k : Nat} (hk : k ≠ b) (x0 x1 x2 x3 x4 x5 x6 x7 x8 x9 x10 x11 x12 x13 x14 : Value) :
 (((((((((((((((W.setCell ⟨b, 0, none⟩ x0).setCell ⟨b, 1, none⟩ x1).setCell ⟨b, 2, none⟩ x2).setCell ⟨b, 3, none⟩ x3).setCell ⟨b, 4, none⟩ x4).setCell ⟨b, 5, none⟩ x5).setCell ⟨b, 6, none⟩ x6).setCell ⟨b, 7, none⟩ x7).setCell ⟨b, 8, none⟩ x8).setCell ⟨b, 9, none⟩ x9).setCell ⟨b, 10, none⟩ x10).setCell ⟨b, 11, none⟩ x11).setCell ⟨b, 12, none⟩ x12).setCell ⟨b, 13, none⟩ x13).setCell ⟨b, 14, none⟩ x14).heap[k]? = W.heap[k]? := by
 simp [World.setCell, Array.getElem?_modify, Ne.symm hk]
structure ExJ (w : World) (b : Nat) (L : Array Bool) (a : Act) (W : World) : Prop where
 sz : L.size = 6
 fr : ∃ s7 s8 s9 s10 : Value, a = { tmps := #[.pointer (some ⟨w.heap.size, 0, none⟩), .pointer (some ⟨w.heap.size + 1, 0, none⟩), .pointer (some ⟨b, 0, none⟩), .int .i64 19736, .int .i64 20102, .agg #[.string ⟨#[49, 48, 48, 48]⟩, .string ⟨#[]⟩], .agg #[.string ⟨#[98]⟩, .int .i64 2, .string ⟨#[85, 83, 68]⟩, .int .i64 0, .int .i64 19736, .int .i64 20102, .string ⟨#[49, 48, 48, 48]⟩, .string ⟨#[]⟩, .string ⟨#[]⟩, .string ⟨#[]⟩, .int .i64 12, .int .i64 3, .string ⟨#[]⟩, .string ⟨#[]⟩, .string ⟨#[]⟩], s7, s8, s9, s10], defers := [] } ∧ (L.getD 0 false = true → s7 = .agg #[.string ⟨#[98]⟩, .int .i64 2, .string ⟨#[85, 83, 68]⟩, .int .i64 0, .int .i64 19736, .int .i64 20102, .string ⟨#[49, 48, 48, 48]⟩, .string ⟨#[]⟩, .string ⟨#[]⟩, .string ⟨#[]⟩, .int .i64 12, .int .i64 3, .string ⟨#[]⟩, .string ⟨#[]⟩, .string ⟨#[]⟩]) ∧ (L.getD 1 false = true → s8 = .int .i64 19737) ∧ (L.getD 2 false = true → s9 = .int .i64 19737) ∧ (L.getD 3 false = true → s10 = .agg #[.string ⟨#[120, 47, 49]⟩, .string ⟨#[98]⟩, .int .i64 19737, .int .i64 19737, .string ⟨#[49, 48]⟩, .string ⟨#[57, 56, 48, 48]⟩, .string ⟨#[]⟩])
 d4 : L.getD 4 false = true → L.getD 0 false = true ∧ L.getD 1 false = true ∧ L.getD 2 false = true
 d5 : L.getD 5 false = true → L.getD 4 false = true
 d2 : L.getD 2 false = true → L.getD 1 false = true
 wa : L.getD 4 false = false → XG w b W
 wb : L.getD 4 false = true → L.getD 5 false = false → X4 w W
 wc : L.getD 5 false = true → X5 w W
theorem example_any (w : World) (ht : Tabs w) : Calls Tryz.prog 38 #[] w fun e w' => e = .returned (.tuple #[i0.enc, l0.enc]) ∧ Below w.heap.size w w' := by
 obtain ⟨W0, hW0', hB0, hz, k0, k1⟩ := box2 w (.cells instZero 27) (.cells lotZero 39)
 have hW0 := hW0'.symm
 have HT := Lib.hid ht
 have HB0 := Lib.hid hB0
 have HK0 := Lib.hid k0
 have HK1 := Lib.hid k1
 clear hW0' ht hB0 k0 k1 hz
 go_enter Tryz.func38, Tryz.ntmps38
 go_wp2_with fail
 refine (day_a _).mono ?_
 rintro e w1 ⟨rfl, b1⟩
 have HB1 := Lib.hid (HB0.out.trans (b1.mono HB0.out.size))
 have HA0 := Lib.hid ((b1.block _ (Array.getElem?_eq_some_iff.1 HK0.out).1).trans HK0.out)
 have HA1 := Lib.hid ((b1.block _ (Array.getElem?_eq_some_iff.1 HK1.out).1).trans HK1.out)
 clear b1 HB0 HK0 HK1 hW0
 go_wp2_with fail
 refine (day_b _).mono ?_
 rintro e w2 ⟨rfl, b2⟩
 have HB2 := Lib.hid (HB1.out.trans (b2.mono HB1.out.size))
 have HK0 := Lib.hid ((b2.block _ (Array.getElem?_eq_some_iff.1 HA0.out).1).trans HA0.out)
 have HK1 := Lib.hid ((b2.block _ (Array.getElem?_eq_some_iff.1 HA1.out).1).trans HA1.out)
 clear b2 HB1 HA0 HA1
 go_wp2_with fail
 refine (fOf_1000 _ (HT.out.below HB2.out)).mono ?_
 rintro e w3 ⟨rfl, b3⟩
 have HB3 := Lib.hid (HB2.out.trans (b3.mono HB2.out.size))
 have HA0 := Lib.hid ((b3.block _ (Array.getElem?_eq_some_iff.1 HK0.out).1).trans HK0.out)
 have HA1 := Lib.hid ((b3.block _ (Array.getElem?_eq_some_iff.1 HK1.out).1).trans HK1.out)
 have hl3 : w.heap.size + 1 < w3.heap.size := (Array.getElem?_eq_some_iff.1 HA1.out).1
 clear b3 HB2 HK0 HK1
 go_wp2_with fail
 obtain ⟨W4, hW4⟩ : ∃ W4, w3.alloc (.cells #[.string ⟨#[98]⟩, .int .i64 2, .string ⟨#[85, 83, 68]⟩, .int .i64 0, .int .i64 19736, .int .i64 20102, .string ⟨#[49, 48, 48, 48]⟩, .string ⟨#[]⟩, .string ⟨#[]⟩, .string ⟨#[]⟩, .int .i64 12, .int .i64 3, .string ⟨#[]⟩, .string ⟨#[]⟩, .string ⟨#[]⟩] 27) = W4 := ⟨_, rfl⟩
 have b4 : Below w3.heap.size w3 W4 := by rw [← hW4]; exact (Below.refl _ w3).alloc (Nat.le_refl _) _
 have hg : XG w w3.heap.size W4 := ⟨(b4.block _ (by omega)).trans HA0.out, (b4.block _ (by omega)).trans HA1.out, by rw [← hW4]; exact heap_alloc_new w3 _, HB3.out.trans (b4.mono HB3.out.size), hl3⟩
 have ne1 : w.heap.size ≠ w3.heap.size := by omega
 have ne2 : w.heap.size + 1 ≠ w3.heap.size := by omega
 obtain ⟨c0, c1, c2, c3, c4, c5, c6, c7, c8, c9, c10, c11, c12, c13, c14⟩ := hg.c15
 rw [hW4]
 generalize w3.heap.size = b at hg ⊢
 have hN : XG w b W4.drew := hg.below (Below.refl _ _).drew
 have mixed : Tryz.prog.follows .mixedOrders = true := by kernel_rfl
 clear b4 HA0 HA1 HB3 hW4 hl3 hg c0 c1 c2 c3 c4 c5 c6 c7 c8 c9 c10 c11 c12 c13 c14 ne1 ne2
 refine wp_region_any mixed (wpAny_inv (ExJ w b) ?st ?dn _ _ _ _ ?h0 (by decide))
 case h0 =>
  refine ⟨by simp, ⟨_, _, _, _, rfl, ?_, ?_, ?_, ?_⟩, ?_, ?_, ?_, fun _ => hN, ?_, ?_⟩ <;> intro h <;> simp at h
 case dn =>
  intro L a w' hj hr
  have no := List.eq_nil_iff_forall_not_mem.1 hr
  have on0 : L.getD 0 false = true := (off_or_on L 0).resolve_left fun h => no 0 (ready_of (by rw [hj.sz]; decide) h rfl (fun e he hb => by simp at he))
  have on1 : L.getD 1 false = true := (off_or_on L 1).resolve_left fun h => no 1 (ready_of (by rw [hj.sz]; decide) h rfl (fun e he hb => by simp at he))
  have on2 : L.getD 2 false = true := (off_or_on L 2).resolve_left fun h => no 2 (ready_of (by rw [hj.sz]; decide) h rfl (fun e he hb => by simp at he; subst he; exact on1))
  have on3 : L.getD 3 false = true := (off_or_on L 3).resolve_left fun h => no 3 (ready_of (by rw [hj.sz]; decide) h rfl (fun e he hb => by simp at he; rcases he with rfl | rfl | rfl <;> first | exact on1 | exact on2 | exact absurd hb (by decide)))
  have on4 : L.getD 4 false = true := (off_or_on L 4).resolve_left fun h => no 4 (ready_of (by rw [hj.sz]; decide) h rfl (fun e he hb => by simp at he; rcases he with rfl | rfl | rfl | rfl | rfl | rfl <;> first | exact on0 | exact on2 | exact on1 | exact on3 | exact absurd hb (by decide)))
  have on5 : L.getD 5 false = true := (off_or_on L 5).resolve_left fun h => no 5 (ready_of (by rw [hj.sz]; decide) h rfl (fun e he hb => by simp at he; rcases he with rfl | rfl | rfl | rfl | rfl | rfl | rfl <;> first | exact on3 | exact on4 | exact on0 | exact on1 | exact on2 | exact absurd hb (by decide)))
  have hx := hj.wc on5
  obtain ⟨s7, s8, s9, s10, rfl, _⟩ := hj.fr
  have z0 := hx.r0
  have z1 := hx.r1
  have hbe := hx.be
  obtain ⟨p0, p1, p2, p3, p4, p5, p6, p7, p8, p9, p10, p11, p12, p13, p14⟩ := cells15 z0
  obtain ⟨q0, q1, q2, q3, q4, q5, q6⟩ := cells7 z1
  clear z0 z1 hx no hr hj on0 on1 on2 on3 on4 on5
  go_wp2_with fail
  exact bodyPost_ret (v := .tuple #[.agg #[.string ⟨#[98]⟩, .int .i64 2, .string ⟨#[85, 83, 68]⟩, .int .i64 0, .int .i64 19736, .int .i64 20102, .string ⟨#[49, 48, 48, 48]⟩, .string ⟨#[]⟩, .string ⟨#[]⟩, .string ⟨#[]⟩, .int .i64 12, .int .i64 3, .string ⟨#[]⟩, .string ⟨#[]⟩, .string ⟨#[]⟩], .agg #[.string ⟨#[120, 47, 49]⟩, .string ⟨#[98]⟩, .int .i64 19737, .int .i64 19737, .string ⟨#[49, 48]⟩, .string ⟨#[57, 56, 48, 48]⟩, .string ⟨#[]⟩]]) (by simp [results, Tryz.results38, go_sem, p0, p1, p2, p3, p4, p5, p6, p7, p8, p9, p10, p11, p12, p13, p14, q0, q1, q2, q3, q4, q5, q6]) rfl ⟨rfl, hbe⟩
 case st =>
  intro L a w' hj i hi
  obtain ⟨hun, o, ho, hall⟩ := mem_ready.1 hi
  have hoff := getD_off hun
  have hlt := (Array.getElem?_eq_some_iff.1 ho).1
  simp at hlt
  obtain ⟨s7, s8, s9, s10, rfl, p⟩ := hj.fr
  have HP := Lib.hid p
  have HJ := Lib.hid hj
  clear p hj hN
  rcases (show i = 0 ∨ i = 1 ∨ i = 2 ∨ i = 3 ∨ i = 4 ∨ i = 5 from by omega) with rfl | rfl | rfl | rfl | rfl | rfl
  ·simp at ho
   subst ho
   clear hall hi
   have h4 : L.getD 4 false = false := (off_or_on L 4).resolve_right fun h => not_on hoff (HJ.out.d4 h).1
   obtain ⟨c0, c1, c2, c3, c4, c5, c6, c7, c8, c9, c10, c11, c12, c13, c14⟩ := (HJ.out.wa h4).c15
   refine wpOp_step rfl (fun K' hK' => ?_)
   have HK := Lib.hid hK'
   clear hK'
   go_simp
   exact HK.out _ _ ⟨by simp [HJ.out.sz], ⟨_, _, _, _, rfl, fun _ => rfl, fun h => HP.out.2.1 (getD_dn (by decide) h), fun h => HP.out.2.2.1 (getD_dn (by decide) h), fun h => HP.out.2.2.2 (getD_dn (by decide) h)⟩, fun h => let k := HJ.out.d4 (getD_dn (by decide) h); ⟨getD_up hun k.1, getD_up hun k.2.1, getD_up hun k.2.2⟩, fun h => getD_up hun (HJ.out.d5 (getD_dn (by decide) h)), fun h => getD_up hun (HJ.out.d2 (getD_dn (by decide) h)), fun h => HJ.out.wa (getD_df (by decide) h), fun h h' => HJ.out.wb (getD_dn (by decide) h) (getD_df (by decide) h'), fun h => HJ.out.wc (getD_dn (by decide) h)⟩
  ·simp at ho
   subst ho
   clear hall hi
   have h4 : L.getD 4 false = false := (off_or_on L 4).resolve_right fun h => not_on hoff (HJ.out.d4 h).2.1
   have hgw := HJ.out.wa h4
   refine wpOp_step rfl (fun K' hK' => ?_)
   have HK := Lib.hid hK'
   clear hK'
   go_simp
   refine (day_g _ hgw).mono ?_
   rintro e wn ⟨rfl, hgn, _⟩
   exact HK.out _ _ ⟨by simp [HJ.out.sz], ⟨_, _, _, _, rfl, fun h => HP.out.1 (getD_dn (by decide) h), fun _ => rfl, fun h => HP.out.2.2.1 (getD_dn (by decide) h), fun h => HP.out.2.2.2 (getD_dn (by decide) h)⟩, fun h => let k := HJ.out.d4 (getD_dn (by decide) h); ⟨getD_up hun k.1, getD_up hun k.2.1, getD_up hun k.2.2⟩, fun h => getD_up hun (HJ.out.d5 (getD_dn (by decide) h)), fun h => getD_up hun (HJ.out.d2 (getD_dn (by decide) h)), fun _ => hgn, fun h _ => (not_on hoff (HJ.out.d4 (getD_dn (by decide) h)).2.1).elim, fun h => (not_on hoff (HJ.out.d4 (HJ.out.d5 (getD_dn (by decide) h))).2.1).elim⟩
  ·simp at ho
   subst ho
   have h1x : L.getD 1 false = true := hall { on := 1, ground := Ground.chain } (by simp) (by decide)
   have HALL := Lib.hid h1x
   clear hall hi h1x
   have h4 : L.getD 4 false = false := (off_or_on L 4).resolve_right fun h => not_on hoff (HJ.out.d4 h).2.2
   have hgw := HJ.out.wa h4
   refine wpOp_step rfl (fun K' hK' => ?_)
   have HK := Lib.hid hK'
   clear hK'
   go_simp
   refine (day_g _ hgw).mono ?_
   rintro e wn ⟨rfl, hgn, _⟩
   exact HK.out _ _ ⟨by simp [HJ.out.sz], ⟨_, _, _, _, rfl, fun h => HP.out.1 (getD_dn (by decide) h), fun h => HP.out.2.1 (getD_dn (by decide) h), fun _ => rfl, fun h => HP.out.2.2.2 (getD_dn (by decide) h)⟩, fun h => let k := HJ.out.d4 (getD_dn (by decide) h); ⟨getD_up hun k.1, getD_up hun k.2.1, getD_up hun k.2.2⟩, fun h => getD_up hun (HJ.out.d5 (getD_dn (by decide) h)), fun _ => getD_up hun HALL.out, fun _ => hgn, fun h _ => (not_on hoff (HJ.out.d4 (getD_dn (by decide) h)).2.2).elim, fun h => (not_on hoff (HJ.out.d4 (HJ.out.d5 (getD_dn (by decide) h))).2.2).elim⟩
  ·simp at ho
   subst ho
   have h1x : L.getD 1 false = true := hall { on := 1, ground := Ground.data } (by simp) (by decide)
   have h2x : L.getD 2 false = true := hall { on := 2, ground := Ground.data } (by simp) (by decide)
   have HALL := Lib.hid (And.intro h1x h2x)
   clear hall hi h1x h2x
   have e8 := HP.out.2.1 HALL.out.1
   have e9 := HP.out.2.2.1 HALL.out.2
   subst e8 e9
   refine wpOp_step rfl (fun K' hK' => ?_)
   have HK := Lib.hid hK'
   clear hK'
   go_simp
   exact HK.out _ _ ⟨by simp [HJ.out.sz], ⟨_, _, _, _, rfl, fun h => HP.out.1 (getD_dn (by decide) h), fun h => HP.out.2.1 (getD_dn (by decide) h), fun h => HP.out.2.2.1 (getD_dn (by decide) h), fun _ => rfl⟩, fun h => let k := HJ.out.d4 (getD_dn (by decide) h); ⟨getD_up hun k.1, getD_up hun k.2.1, getD_up hun k.2.2⟩, fun h => getD_up hun (HJ.out.d5 (getD_dn (by decide) h)), fun h => getD_up hun (HJ.out.d2 (getD_dn (by decide) h)), fun h => HJ.out.wa (getD_df (by decide) h), fun h h' => HJ.out.wb (getD_dn (by decide) h) (getD_df (by decide) h'), fun h => HJ.out.wc (getD_dn (by decide) h)⟩
  ·simp at ho
   subst ho
   have h0x : L.getD 0 false = true := hall { on := 0, ground := Ground.data } (by simp) (by decide)
   have h2x : L.getD 2 false = true := hall { on := 2, ground := Ground.chain } (by simp) (by decide)
   have HALL := Lib.hid (And.intro h0x h2x)
   clear hall hi h0x h2x
   have e7 := HP.out.1 HALL.out.1
   subst e7
   have hgw := HJ.out.wa hoff
   have z0 := hgw.r0
   obtain ⟨p0, p1, p2, p3, p4, p5, p6, p7, p8, p9, p10, p11, p12, p13, p14⟩ := cells15 z0
   have f0 := Lib.frozen_of_heap z0 0
   have f1 := Lib.frozen_of_heap z0 1
   have f2 := Lib.frozen_of_heap z0 2
   have f3 := Lib.frozen_of_heap z0 3
   have f4 := Lib.frozen_of_heap z0 4
   have f5 := Lib.frozen_of_heap z0 5
   have f6 := Lib.frozen_of_heap z0 6
   have f7 := Lib.frozen_of_heap z0 7
   have f8 := Lib.frozen_of_heap z0 8
   have f9 := Lib.frozen_of_heap z0 9
   have f10 := Lib.frozen_of_heap z0 10
   have f11 := Lib.frozen_of_heap z0 11
   have f12 := Lib.frozen_of_heap z0 12
   have f13 := Lib.frozen_of_heap z0 13
   have f14 := Lib.frozen_of_heap z0 14
   have hx4 : X4 w (((((((((((((((w'.setCell ⟨w.heap.size, 0, none⟩ (.string ⟨#[98]⟩)).setCell ⟨w.heap.size, 1, none⟩ (.int .i64 2)).setCell ⟨w.heap.size, 2, none⟩ (.string ⟨#[85, 83, 68]⟩)).setCell ⟨w.heap.size, 3, none⟩ (.int .i64 0)).setCell ⟨w.heap.size, 4, none⟩ (.int .i64 19736)).setCell ⟨w.heap.size, 5, none⟩ (.int .i64 20102)).setCell ⟨w.heap.size, 6, none⟩ (.string ⟨#[49, 48, 48, 48]⟩)).setCell ⟨w.heap.size, 7, none⟩ (.string ⟨#[]⟩)).setCell ⟨w.heap.size, 8, none⟩ (.string ⟨#[]⟩)).setCell ⟨w.heap.size, 9, none⟩ (.string ⟨#[]⟩)).setCell ⟨w.heap.size, 10, none⟩ (.int .i64 12)).setCell ⟨w.heap.size, 11, none⟩ (.int .i64 3)).setCell ⟨w.heap.size, 12, none⟩ (.string ⟨#[]⟩)).setCell ⟨w.heap.size, 13, none⟩ (.string ⟨#[]⟩)).setCell ⟨w.heap.size, 14, none⟩ (.string ⟨#[]⟩)) := ⟨put15 z0 (.string ⟨#[98]⟩) (.int .i64 2) (.string ⟨#[85, 83, 68]⟩) (.int .i64 0) (.int .i64 19736) (.int .i64 20102) (.string ⟨#[49, 48, 48, 48]⟩) (.string ⟨#[]⟩) (.string ⟨#[]⟩) (.string ⟨#[]⟩) (.int .i64 12) (.int .i64 3) (.string ⟨#[]⟩) (.string ⟨#[]⟩) (.string ⟨#[]⟩), (far15 (by omega) (.string ⟨#[98]⟩) (.int .i64 2) (.string ⟨#[85, 83, 68]⟩) (.int .i64 0) (.int .i64 19736) (.int .i64 20102) (.string ⟨#[49, 48, 48, 48]⟩) (.string ⟨#[]⟩) (.string ⟨#[]⟩) (.string ⟨#[]⟩) (.int .i64 12) (.int .i64 3) (.string ⟨#[]⟩) (.string ⟨#[]⟩) (.string ⟨#[]⟩)).trans hgw.r1, below15 (Nat.le_refl _) hgw.be (.string ⟨#[98]⟩) (.int .i64 2) (.string ⟨#[85, 83, 68]⟩) (.int .i64 0) (.int .i64 19736) (.int .i64 20102) (.string ⟨#[49, 48, 48, 48]⟩) (.string ⟨#[]⟩) (.string ⟨#[]⟩) (.string ⟨#[]⟩) (.int .i64 12) (.int .i64 3) (.string ⟨#[]⟩) (.string ⟨#[]⟩) (.string ⟨#[]⟩)⟩
   have HX := Lib.hid hx4
   clear z0 hgw hx4
   refine wpOp_step rfl (fun K' hK' => ?_)
   have HK := Lib.hid hK'
   clear hK'
   go_simp
   have hx4 := HX.out
   exact HK.out _ _ ⟨by simp [HJ.out.sz], ⟨_, _, _, _, rfl, fun h => HP.out.1 (getD_dn (by decide) h), fun h => HP.out.2.1 (getD_dn (by decide) h), fun h => HP.out.2.2.1 (getD_dn (by decide) h), fun h => HP.out.2.2.2 (getD_dn (by decide) h)⟩, fun _ => ⟨getD_up hun HALL.out.1, getD_up hun (HJ.out.d2 HALL.out.2), getD_up hun HALL.out.2⟩, fun h => getD_up hun (HJ.out.d5 (getD_dn (by decide) h)), fun h => getD_up hun (HJ.out.d2 (getD_dn (by decide) h)), fun h => (not_on h (getD_set_same hun)).elim, fun _ _ => hx4, fun h => (not_on hoff (HJ.out.d5 (getD_dn (by decide) h))).elim⟩
  ·simp at ho
   subst ho
   have h3x : L.getD 3 false = true := hall { on := 3, ground := Ground.data } (by simp) (by decide)
   have h4x : L.getD 4 false = true := hall { on := 4, ground := Ground.chain } (by simp) (by decide)
   have HALL := Lib.hid (And.intro h3x h4x)
   clear hall hi h3x h4x
   have e10 := HP.out.2.2.2 HALL.out.1
   subst e10
   have hgw := HJ.out.wb HALL.out.2 hoff
   have z1 := hgw.r1
   obtain ⟨p0, p1, p2, p3, p4, p5, p6⟩ := cells7 z1
   obtain ⟨f0, f1, f2, f3, f4, f5, f6⟩ := frozen7 z1
   have hx5 : X5 w (((((((w'.setCell ⟨(w.heap.size + 1), 0, none⟩ (.string ⟨#[120, 47, 49]⟩)).setCell ⟨(w.heap.size + 1), 1, none⟩ (.string ⟨#[98]⟩)).setCell ⟨(w.heap.size + 1), 2, none⟩ (.int .i64 19737)).setCell ⟨(w.heap.size + 1), 3, none⟩ (.int .i64 19737)).setCell ⟨(w.heap.size + 1), 4, none⟩ (.string ⟨#[49, 48]⟩)).setCell ⟨(w.heap.size + 1), 5, none⟩ (.string ⟨#[57, 56, 48, 48]⟩)).setCell ⟨(w.heap.size + 1), 6, none⟩ (.string ⟨#[]⟩)) := ⟨(far7 (by omega) (.string ⟨#[120, 47, 49]⟩) (.string ⟨#[98]⟩) (.int .i64 19737) (.int .i64 19737) (.string ⟨#[49, 48]⟩) (.string ⟨#[57, 56, 48, 48]⟩) (.string ⟨#[]⟩)).trans hgw.r0, set7 z1 (.string ⟨#[120, 47, 49]⟩) (.string ⟨#[98]⟩) (.int .i64 19737) (.int .i64 19737) (.string ⟨#[49, 48]⟩) (.string ⟨#[57, 56, 48, 48]⟩) (.string ⟨#[]⟩), below7 (by omega) hgw.be (.string ⟨#[120, 47, 49]⟩) (.string ⟨#[98]⟩) (.int .i64 19737) (.int .i64 19737) (.string ⟨#[49, 48]⟩) (.string ⟨#[57, 56, 48, 48]⟩) (.string ⟨#[]⟩)⟩
   have HX := Lib.hid hx5
   clear z1 hgw hx5
   refine wpOp_step rfl (fun K' hK' => ?_)
   have HK := Lib.hid hK'
   clear hK'
   go_simp
   have hx5 := HX.out
   exact HK.out _ _ ⟨by simp [HJ.out.sz], ⟨_, _, _, _, rfl, fun h => HP.out.1 (getD_dn (by decide) h), fun h => HP.out.2.1 (getD_dn (by decide) h), fun h => HP.out.2.2.1 (getD_dn (by decide) h), fun h => HP.out.2.2.2 (getD_dn (by decide) h)⟩, fun h => let k := HJ.out.d4 (getD_dn (by decide) h); ⟨getD_up hun k.1, getD_up hun k.2.1, getD_up hun k.2.2⟩, fun _ => getD_up hun HALL.out.2, fun h => getD_up hun (HJ.out.d2 (getD_dn (by decide) h)), fun h => (not_on (getD_df (by decide) h) HALL.out.2).elim, fun _ h' => (not_on h' (getD_set_same hun)).elim, fun _ => hx5⟩
end Go.Proofs.YtpgjmdggblnfkaaGreatDoor
