/-
  An instrument and a lot, opened out of an argument's reading. (Printed by gen_card1.py.)
-/
import Derived.Test.YtbkmhmaldljgmaaGreatDoorC46
import Derived.Test.YtbkmhmaldljgmaaGreatDoorC15
set_option linter.unusedVariables false
set_option linter.unusedSimpArgs false
set_option maxHeartbeats 16000000
set_option maxRecDepth 100000
namespace Go.Proofs.YtbkmhmaldljgmaaGreatDoor
open Go.RowKit Tr Go.Shelf Go.ChangeShapes Go.WideShapes Go.ChangeAt
set_option maxRecDepth 100000
theorem cells_frac {H : Type} {enc : TypeId × Value → H} {W : World} {b : Nat} {sp : Nat → Bool} {held : Bool} {fuel : Nat} {l : List Value} {x : DataW H × List MemPlace} (h : DataW.trod enc Tryz.prog W b sp held fuel 25 l = some x) : ∃ n d : ByteArray, l = [.string n, .string d] := by
 obtain ⟨y0, y1, n, _, hlen, h0, h1⟩ := trod_struct2 Tryz.underlying25 h
 have hC : Tryz.prog.cellsOf 25 = 2 := by kernel_rfl
 have k4 : Tryz.prog.cellsOf 23 = 1 := by kernel_rfl
 rw [hC] at hlen
 match l, hlen with
 | [c0, c1], _ =>
   dsimp only at h0 h1
   simp only [k4, List.drop_succ_cons, List.drop_zero, List.take_succ_cons, List.take_zero] at h0 h1
   obtain ⟨n0, g0, _, _⟩ := DataW.trod_string Tryz.underlying23 h0
   obtain ⟨n1, g1, _, _⟩ := DataW.trod_string Tryz.underlying23 h1
   simp only [List.cons.injEq, and_true] at g0 g1
   exact ⟨n0, n1, by rw [g0, g1]⟩
theorem cells_inst {H : Type} {enc : TypeId × Value → H} {W : World} {b : Nat} {sp : Nat → Bool} {held : Bool} {fuel : Nat} {l : List Value} {x : DataW H × List MemPlace} (h : DataW.trod enc Tryz.prog W b sp held fuel 27 l = some x) : ∃ i : Inst, l = i.cells.toList := by
 obtain ⟨xs, n, _, _, hlen, hxs, hel⟩ := DataW.trod_struct Tryz.underlying27 h
 have hC : Tryz.prog.cellsOf 27 = 15 := by kernel_rfl
 have k1 : Tryz.prog.cellsOf 9 = 1 := by kernel_rfl
 have k2 : Tryz.prog.cellsOf 3 = 1 := by kernel_rfl
 have k3 : Tryz.prog.cellsOf 22 = 1 := by kernel_rfl
 have k4 : Tryz.prog.cellsOf 23 = 1 := by kernel_rfl
 have k5 : Tryz.prog.cellsOf 25 = 2 := by kernel_rfl
 rw [hC] at hlen
 match l, hlen with
 | [c0, c1, c2, c3, c4, c5, c6, c7, c8, c9, c10, c11, c12, c13, c14], _ =>
   have f0 : DataW.trod enc Tryz.prog W b sp held n 9 (([c0, c1, c2, c3, c4, c5, c6, c7, c8, c9, c10, c11, c12, c13, c14].drop 0).take (Tryz.prog.cellsOf 9)) = xs[0]? := hel 0 _ rfl
   obtain ⟨y0, e0⟩ : ∃ y, xs[0]? = some y := ⟨_, List.getElem?_eq_getElem (by rw [hxs]; decide)⟩
   rw [e0, k1] at f0
   simp only [List.drop_succ_cons, List.drop_zero, List.take_succ_cons, List.take_zero] at f0
   obtain ⟨n0, g0, _, _⟩ := DataW.trod_string Tryz.underlying9 f0
   simp only [List.cons.injEq, and_true] at g0
   have f1 : DataW.trod enc Tryz.prog W b sp held n 3 (([c0, c1, c2, c3, c4, c5, c6, c7, c8, c9, c10, c11, c12, c13, c14].drop 1).take (Tryz.prog.cellsOf 3)) = xs[1]? := hel 1 _ rfl
   obtain ⟨y1, e1⟩ : ∃ y, xs[1]? = some y := ⟨_, List.getElem?_eq_getElem (by rw [hxs]; decide)⟩
   rw [e1, k2] at f1
   simp only [List.drop_succ_cons, List.drop_zero, List.take_succ_cons, List.take_zero] at f1
   obtain ⟨n1, g1, _, _⟩ := DataW.trod_int Tryz.underlying3 f1
   simp only [List.cons.injEq, and_true] at g1
   have f2 : DataW.trod enc Tryz.prog W b sp held n 9 (([c0, c1, c2, c3, c4, c5, c6, c7, c8, c9, c10, c11, c12, c13, c14].drop 2).take (Tryz.prog.cellsOf 9)) = xs[2]? := hel 2 _ rfl
   obtain ⟨y2, e2⟩ : ∃ y, xs[2]? = some y := ⟨_, List.getElem?_eq_getElem (by rw [hxs]; decide)⟩
   rw [e2, k1] at f2
   simp only [List.drop_succ_cons, List.drop_zero, List.take_succ_cons, List.take_zero] at f2
   obtain ⟨n2, g2, _, _⟩ := DataW.trod_string Tryz.underlying9 f2
   simp only [List.cons.injEq, and_true] at g2
   have f3 : DataW.trod enc Tryz.prog W b sp held n 3 (([c0, c1, c2, c3, c4, c5, c6, c7, c8, c9, c10, c11, c12, c13, c14].drop 3).take (Tryz.prog.cellsOf 3)) = xs[3]? := hel 3 _ rfl
   obtain ⟨y3, e3⟩ : ∃ y, xs[3]? = some y := ⟨_, List.getElem?_eq_getElem (by rw [hxs]; decide)⟩
   rw [e3, k2] at f3
   simp only [List.drop_succ_cons, List.drop_zero, List.take_succ_cons, List.take_zero] at f3
   obtain ⟨n3, g3, _, _⟩ := DataW.trod_int Tryz.underlying3 f3
   simp only [List.cons.injEq, and_true] at g3
   have f4 : DataW.trod enc Tryz.prog W b sp held n 22 (([c0, c1, c2, c3, c4, c5, c6, c7, c8, c9, c10, c11, c12, c13, c14].drop 4).take (Tryz.prog.cellsOf 22)) = xs[4]? := hel 4 _ rfl
   obtain ⟨y4, e4⟩ : ∃ y, xs[4]? = some y := ⟨_, List.getElem?_eq_getElem (by rw [hxs]; decide)⟩
   rw [e4, k3] at f4
   simp only [List.drop_succ_cons, List.drop_zero, List.take_succ_cons, List.take_zero] at f4
   obtain ⟨n4, g4, _, _⟩ := DataW.trod_int Tryz.underlying22 f4
   simp only [List.cons.injEq, and_true] at g4
   have f5 : DataW.trod enc Tryz.prog W b sp held n 22 (([c0, c1, c2, c3, c4, c5, c6, c7, c8, c9, c10, c11, c12, c13, c14].drop 5).take (Tryz.prog.cellsOf 22)) = xs[5]? := hel 5 _ rfl
   obtain ⟨y5, e5⟩ : ∃ y, xs[5]? = some y := ⟨_, List.getElem?_eq_getElem (by rw [hxs]; decide)⟩
   rw [e5, k3] at f5
   simp only [List.drop_succ_cons, List.drop_zero, List.take_succ_cons, List.take_zero] at f5
   obtain ⟨n5, g5, _, _⟩ := DataW.trod_int Tryz.underlying22 f5
   simp only [List.cons.injEq, and_true] at g5
   have f6 : DataW.trod enc Tryz.prog W b sp held n 25 (([c0, c1, c2, c3, c4, c5, c6, c7, c8, c9, c10, c11, c12, c13, c14].drop 6).take (Tryz.prog.cellsOf 25)) = xs[6]? := hel 6 _ rfl
   obtain ⟨y6, e6⟩ : ∃ y, xs[6]? = some y := ⟨_, List.getElem?_eq_getElem (by rw [hxs]; decide)⟩
   rw [e6, k5] at f6
   simp only [List.drop_succ_cons, List.drop_zero, List.take_succ_cons, List.take_zero] at f6
   obtain ⟨n6, d6, g6⟩ := cells_frac f6
   simp only [List.cons.injEq, and_true] at g6
   have f7 : DataW.trod enc Tryz.prog W b sp held n 25 (([c0, c1, c2, c3, c4, c5, c6, c7, c8, c9, c10, c11, c12, c13, c14].drop 8).take (Tryz.prog.cellsOf 25)) = xs[7]? := hel 7 _ rfl
   obtain ⟨y7, e7⟩ : ∃ y, xs[7]? = some y := ⟨_, List.getElem?_eq_getElem (by rw [hxs]; decide)⟩
   rw [e7, k5] at f7
   simp only [List.drop_succ_cons, List.drop_zero, List.take_succ_cons, List.take_zero] at f7
   obtain ⟨n7, d7, g7⟩ := cells_frac f7
   simp only [List.cons.injEq, and_true] at g7
   have f8 : DataW.trod enc Tryz.prog W b sp held n 3 (([c0, c1, c2, c3, c4, c5, c6, c7, c8, c9, c10, c11, c12, c13, c14].drop 10).take (Tryz.prog.cellsOf 3)) = xs[8]? := hel 8 _ rfl
   obtain ⟨y8, e8⟩ : ∃ y, xs[8]? = some y := ⟨_, List.getElem?_eq_getElem (by rw [hxs]; decide)⟩
   rw [e8, k2] at f8
   simp only [List.drop_succ_cons, List.drop_zero, List.take_succ_cons, List.take_zero] at f8
   obtain ⟨n8, g8, _, _⟩ := DataW.trod_int Tryz.underlying3 f8
   simp only [List.cons.injEq, and_true] at g8
   have f9 : DataW.trod enc Tryz.prog W b sp held n 3 (([c0, c1, c2, c3, c4, c5, c6, c7, c8, c9, c10, c11, c12, c13, c14].drop 11).take (Tryz.prog.cellsOf 3)) = xs[9]? := hel 9 _ rfl
   obtain ⟨y9, e9⟩ : ∃ y, xs[9]? = some y := ⟨_, List.getElem?_eq_getElem (by rw [hxs]; decide)⟩
   rw [e9, k2] at f9
   simp only [List.drop_succ_cons, List.drop_zero, List.take_succ_cons, List.take_zero] at f9
   obtain ⟨n9, g9, _, _⟩ := DataW.trod_int Tryz.underlying3 f9
   simp only [List.cons.injEq, and_true] at g9
   have f10 : DataW.trod enc Tryz.prog W b sp held n 9 (([c0, c1, c2, c3, c4, c5, c6, c7, c8, c9, c10, c11, c12, c13, c14].drop 12).take (Tryz.prog.cellsOf 9)) = xs[10]? := hel 10 _ rfl
   obtain ⟨y10, e10⟩ : ∃ y, xs[10]? = some y := ⟨_, List.getElem?_eq_getElem (by rw [hxs]; decide)⟩
   rw [e10, k1] at f10
   simp only [List.drop_succ_cons, List.drop_zero, List.take_succ_cons, List.take_zero] at f10
   obtain ⟨n10, g10, _, _⟩ := DataW.trod_string Tryz.underlying9 f10
   simp only [List.cons.injEq, and_true] at g10
   have f11 : DataW.trod enc Tryz.prog W b sp held n 25 (([c0, c1, c2, c3, c4, c5, c6, c7, c8, c9, c10, c11, c12, c13, c14].drop 13).take (Tryz.prog.cellsOf 25)) = xs[11]? := hel 11 _ rfl
   obtain ⟨y11, e11⟩ : ∃ y, xs[11]? = some y := ⟨_, List.getElem?_eq_getElem (by rw [hxs]; decide)⟩
   rw [e11, k5] at f11
   simp only [List.drop_succ_cons, List.drop_zero, List.take_succ_cons, List.take_zero] at f11
   obtain ⟨n11, d11, g11⟩ := cells_frac f11
   simp only [List.cons.injEq, and_true] at g11
   exact ⟨⟨n0, n1, n2, n3, n4, n5, n6, d6, n7, d7, n8, n9, n10, n11, d11⟩, by simp only [g0, g1, g2, g3, g4, g5, g6.1, g6.2, g7.1, g7.2, g8, g9, g10, g11.1, g11.2]⟩
theorem open_inst {H : Type} {enc : TypeId × Value → H} {W : World} {base b : Nat} {sp : Nat → Bool} {held : Bool} {v : Value} {d : DataW H} {p : List MemPlace} (hv : Value.okWide Tryz.prog W .any base 27 v) (h : DataW.Trod enc Tryz.prog W b sp held 27 v d p) : ∃ i : Inst, v = i.enc := by
 obtain ⟨cs, rfl, _⟩ := okWide_struct Tryz.underlying27 hv
 obtain ⟨fuel, hf⟩ := h
 obtain ⟨i, hi⟩ := cells_inst hf
 refine ⟨i, ?_⟩
 show Value.agg cs = Value.agg i.cells
 congr 1
 exact Array.toList_inj.1 hi
end Go.Proofs.YtbkmhmaldljgmaaGreatDoor
