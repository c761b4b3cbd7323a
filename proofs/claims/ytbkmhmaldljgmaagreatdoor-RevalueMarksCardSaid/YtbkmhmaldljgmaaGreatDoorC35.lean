/-
  fact.checkField: every field but picks and options. (Printed by gen_fk5.py.)
  fact.Check on a fact that is not cancelled. (Printed by gen_fk6.py.)
-/
import Derived.Test.YtbkmhmaldljgmaaGreatDoorC27
import Derived.Test.YtbkmhmaldljgmaaGreatDoorC33
import Derived.Test.YtbkmhmaldljgmaaGreatDoorC28
import Derived.Test.YtbkmhmaldljgmaaGreatDoorC34
set_option linter.unusedVariables false
set_option linter.unusedSimpArgs false
set_option maxHeartbeats 16000000
set_option maxRecDepth 100000
namespace Go.Proofs.YtbkmhmaldljgmaaGreatDoor
open Go.RowKit Tr Go.Shelf Go.Maps
theorem wpQuiet_load_row {P : Program} {ops : Array Oper} {C : World → Prop} {rest : List Oper} {o : Oper} {a : Act} {Q : Act → Prop} (hgd : o.guard = none) (ty : TypeId) (x : Operand) (ho : o.op = .load ty x)
 (g : Nat) (hx : a.eval x = .pointer (some ⟨g, 0, none⟩)) (t : TypeId) (cs : Array Value) (fr : Nat × Nat) (d : TypeDesc) (hg : ∀ W, C W → W.heap[g]? = some (.cells cs t fr))
 (hu : P.underlying ty = some d) (hd : (match d with | .struct _ | .array _ _ => true | _ => false) = true) (hi : (P.info? ty).map (·.size) = some cs.size)
 (h : wpQuiet P ops C Q rest (a.put o.dst (.agg cs))) : wpQuiet P ops C Q (o :: rest) a := by
 have hw : Region.wanted o (yielded ops a.tmps) = true := by simp [Region.wanted, hgd]
 unfold wpQuiet
 rw [if_pos hw]
 refine ⟨.agg cs, fun W hW => ?_, h⟩
 unfold Oper.quietAt execOp
 simp only [ho, hx, Instr.loadAt, Instr.sureAddr, Sem.run_bind, Sem.run_pure, Result.andThen_ok, run_loadVar_row W g t ty cs fr d (hg W hW) hu hd hi]
 exact ⟨rfl, rfl⟩
theorem fcField_0 (x : Fact) (P O : Value) (s : ByteArray) (c : Int) (h : Nat → Bool) (y : Option Nat) (cd : Bool) (hx : x.tiny) (w : World) :
 Calls Tryz.prog 205 #[.agg (x.cells P O), .agg (kcells s c h (.map y) cd), .int .i64 0] w fun e w' => e = .returned (.int .i64 (if nameOk x.inst = true then 0 else 23)) ∧ Below w.heap.size w w' := by
 show Calls _ _ #[.agg (x.cells P O), .agg #[.string s, .int .i64 c, .bool (h 0), .bool (h 1), .bool (h 2), .bool (h 3), .bool (h 4), .bool (h 5), .bool (h 6), .bool (h 7), .bool (h 8), .bool (h 9), .bool (h 10), .bool (h 11), .bool (h 12), .map y, .bool cd], .int .i64 0] w _
 obtain ⟨W0, hW0', hB0, hz, k0, k1⟩ := box2 w (.cells (x.cells P O) 60) (.cells #[.string s, .int .i64 c, .bool (h 0), .bool (h 1), .bool (h 2), .bool (h 3), .bool (h 4), .bool (h 5), .bool (h 6), .bool (h 7), .bool (h 8), .bool (h 9), .bool (h 10), .bool (h 11), .bool (h 12), .map y, .bool cd] 247)
 have hW0 := hW0'.symm
 have HK0 := hI k0
 have HK1 := hI k1
 have HB0 := hI hB0
 obtain ⟨c0, c1, c2, c3, c4, c5, c6, c7, c8, c9, c10, c11, c12, c13, c14, c15, c16, c17, c18, c19, c20⟩ := fact_cells k0
 have d15 := Lib.cell_of_heap k1 15
 have d16 := Lib.cell_of_heap k1 16
 simp at d15 d16
 have HX := hI hx
 clear hW0' hB0 hz k0 k1 hx
 have HN := hI (fun W => fcName_any x.inst (by have := HX.out.inst; omega) W)
 generalize (if nameOk x.inst = true then (0 : Int) else 23) = r at HN ⊢
 unfold Fact.cells at hW0 HK0 ⊢
 go_enter Tryz.func205, Tryz.ntmps205
 go_wp2_with fail
 refine (HN.out _).mono ?_
 rintro e w1 ⟨rfl, b1⟩
 have HB1 := hI (HB0.out.trans (b1.mono HB0.out.size))
 clear b1
 go_wp2_with fail
 go_ret
 exact ⟨rfl, HB1.out⟩
theorem fcField_3 (x : Fact) (P O : Value) (s : ByteArray) (c : Int) (h : Nat → Bool) (y : Option Nat) (cd : Bool) (hx : x.tiny) (w : World) :
 Calls Tryz.prog 205 #[.agg (x.cells P O), .agg (kcells s c h (.map y) cd), .int .i64 3] w fun e w' => e = .returned (.int .i64 (if nameOk x.target = true then 0 else 23)) ∧ Below w.heap.size w w' := by
 show Calls _ _ #[.agg (x.cells P O), .agg #[.string s, .int .i64 c, .bool (h 0), .bool (h 1), .bool (h 2), .bool (h 3), .bool (h 4), .bool (h 5), .bool (h 6), .bool (h 7), .bool (h 8), .bool (h 9), .bool (h 10), .bool (h 11), .bool (h 12), .map y, .bool cd], .int .i64 3] w _
 obtain ⟨W0, hW0', hB0, hz, k0, k1⟩ := box2 w (.cells (x.cells P O) 60) (.cells #[.string s, .int .i64 c, .bool (h 0), .bool (h 1), .bool (h 2), .bool (h 3), .bool (h 4), .bool (h 5), .bool (h 6), .bool (h 7), .bool (h 8), .bool (h 9), .bool (h 10), .bool (h 11), .bool (h 12), .map y, .bool cd] 247)
 have hW0 := hW0'.symm
 have HK0 := hI k0
 have HK1 := hI k1
 have HB0 := hI hB0
 obtain ⟨c0, c1, c2, c3, c4, c5, c6, c7, c8, c9, c10, c11, c12, c13, c14, c15, c16, c17, c18, c19, c20⟩ := fact_cells k0
 have d15 := Lib.cell_of_heap k1 15
 have d16 := Lib.cell_of_heap k1 16
 simp at d15 d16
 have HX := hI hx
 clear hW0' hB0 hz k0 k1 hx
 have HN := hI (fun W => fcName_any x.target (by have := HX.out.target; omega) W)
 generalize (if nameOk x.target = true then (0 : Int) else 23) = r at HN ⊢
 unfold Fact.cells at hW0 HK0 ⊢
 go_enter Tryz.func205, Tryz.ntmps205
 go_wp2_with fail
 refine (HN.out _).mono ?_
 rintro e w1 ⟨rfl, b1⟩
 have HB1 := hI (HB0.out.trans (b1.mono HB0.out.size))
 clear b1
 go_wp2_with fail
 go_ret
 exact ⟨rfl, HB1.out⟩
theorem fcField_2 (x : Fact) (P O : Value) (s : ByteArray) (c : Int) (h : Nat → Bool) (y : Option Nat) (cd : Bool) (hx : x.tiny) (w : World) :
 Calls Tryz.prog 205 #[.agg (x.cells P O), .agg (kcells s c h (.map y) cd), .int .i64 2] w fun e w' => e = .returned (.int .i64 (if codeOk x.cur = true then 0 else 12)) ∧ Below w.heap.size w w' := by
 show Calls _ _ #[.agg (x.cells P O), .agg #[.string s, .int .i64 c, .bool (h 0), .bool (h 1), .bool (h 2), .bool (h 3), .bool (h 4), .bool (h 5), .bool (h 6), .bool (h 7), .bool (h 8), .bool (h 9), .bool (h 10), .bool (h 11), .bool (h 12), .map y, .bool cd], .int .i64 2] w _
 obtain ⟨W0, hW0', hB0, hz, k0, k1⟩ := box2 w (.cells (x.cells P O) 60) (.cells #[.string s, .int .i64 c, .bool (h 0), .bool (h 1), .bool (h 2), .bool (h 3), .bool (h 4), .bool (h 5), .bool (h 6), .bool (h 7), .bool (h 8), .bool (h 9), .bool (h 10), .bool (h 11), .bool (h 12), .map y, .bool cd] 247)
 have hW0 := hW0'.symm
 have HK0 := hI k0
 have HK1 := hI k1
 have HB0 := hI hB0
 obtain ⟨c0, c1, c2, c3, c4, c5, c6, c7, c8, c9, c10, c11, c12, c13, c14, c15, c16, c17, c18, c19, c20⟩ := fact_cells k0
 have d15 := Lib.cell_of_heap k1 15
 have d16 := Lib.cell_of_heap k1 16
 simp at d15 d16
 have HX := hI hx
 clear hW0' hB0 hz k0 k1 hx
 have HN := hI (fun W => fcIsCode_any x.cur (by have := HX.out.cur; omega) W)
 generalize codeOk x.cur = r at HN ⊢
 unfold Fact.cells at hW0 HK0 ⊢
 go_enter Tryz.func205, Tryz.ntmps205
 go_wp2_with fail
 refine (HN.out _).mono ?_
 rintro e w1 ⟨rfl, b1⟩
 have HB1 := hI (HB0.out.trans (b1.mono HB0.out.size))
 clear b1
 cases r
 all_goals
  go_wp2_with fail
  go_ret
  exact ⟨rfl, HB1.out⟩
theorem fcField_12 (x : Fact) (P O : Value) (s : ByteArray) (c : Int) (h : Nat → Bool) (y : Option Nat) (cd : Bool) (hx : x.tiny) (w : World) :
 Calls Tryz.prog 205 #[.agg (x.cells P O), .agg (kcells s c h (.map y) cd), .int .i64 12] w fun e w' => e = .returned (.int .i64 (if x.choice < 0 then 2 else 0)) ∧ Below w.heap.size w w' := by
 show Calls _ _ #[.agg (x.cells P O), .agg #[.string s, .int .i64 c, .bool (h 0), .bool (h 1), .bool (h 2), .bool (h 3), .bool (h 4), .bool (h 5), .bool (h 6), .bool (h 7), .bool (h 8), .bool (h 9), .bool (h 10), .bool (h 11), .bool (h 12), .map y, .bool cd], .int .i64 12] w _
 obtain ⟨W0, hW0', hB0, hz, k0, k1⟩ := box2 w (.cells (x.cells P O) 60) (.cells #[.string s, .int .i64 c, .bool (h 0), .bool (h 1), .bool (h 2), .bool (h 3), .bool (h 4), .bool (h 5), .bool (h 6), .bool (h 7), .bool (h 8), .bool (h 9), .bool (h 10), .bool (h 11), .bool (h 12), .map y, .bool cd] 247)
 have hW0 := hW0'.symm
 have HK0 := hI k0
 have HK1 := hI k1
 have HB0 := hI hB0
 obtain ⟨c0, c1, c2, c3, c4, c5, c6, c7, c8, c9, c10, c11, c12, c13, c14, c15, c16, c17, c18, c19, c20⟩ := fact_cells k0
 have d15 := Lib.cell_of_heap k1 15
 have d16 := Lib.cell_of_heap k1 16
 simp at d15 d16
 have HX := hI hx
 clear hW0' hB0 hz k0 k1 hx
 by_cases hc : x.choice < 0
 ·have z1 : decide (x.choice < 0) = true := decide_eq_true hc
  rw [if_pos hc]
  clear hc
  unfold Fact.cells at hW0 HK0 ⊢
  go_enter Tryz.func205, Tryz.ntmps205
  go_wp2_with fail
  go_ret
  exact ⟨rfl, HB0.out⟩
 ·have z1 : decide (x.choice < 0) = false := decide_eq_false hc
  rw [if_neg hc]
  clear hc
  unfold Fact.cells at hW0 HK0 ⊢
  go_enter Tryz.func205, Tryz.ntmps205
  go_wp2_with fail
  go_ret
  exact ⟨rfl, HB0.out⟩
theorem fcField_1c (x : Fact) (P O : Value) (s : ByteArray) (c : Int) (h : Nat → Bool) (y : Option Nat) (hx : x.tiny) (w : World) :
 Calls Tryz.prog 205 #[.agg (x.cells P O), .agg (kcells s c h (.map y) true), .int .i64 1] w fun e w' => e = .returned (.int .i64 (if codeOk x.other = true then (if x.other = x.cur then 18 else 0) else 12)) ∧ Below w.heap.size w w' := by
 show Calls _ _ #[.agg (x.cells P O), .agg #[.string s, .int .i64 c, .bool (h 0), .bool (h 1), .bool (h 2), .bool (h 3), .bool (h 4), .bool (h 5), .bool (h 6), .bool (h 7), .bool (h 8), .bool (h 9), .bool (h 10), .bool (h 11), .bool (h 12), .map y, .bool true], .int .i64 1] w _
 obtain ⟨W0, hW0', hB0, hz, k0, k1⟩ := box2 w (.cells (x.cells P O) 60) (.cells #[.string s, .int .i64 c, .bool (h 0), .bool (h 1), .bool (h 2), .bool (h 3), .bool (h 4), .bool (h 5), .bool (h 6), .bool (h 7), .bool (h 8), .bool (h 9), .bool (h 10), .bool (h 11), .bool (h 12), .map y, .bool true] 247)
 have hW0 := hW0'.symm
 have HK0 := hI k0
 have HK1 := hI k1
 have HB0 := hI hB0
 obtain ⟨c0, c1, c2, c3, c4, c5, c6, c7, c8, c9, c10, c11, c12, c13, c14, c15, c16, c17, c18, c19, c20⟩ := fact_cells k0
 have d15 := Lib.cell_of_heap k1 15
 have d16 := Lib.cell_of_heap k1 16
 simp at d15 d16
 have HX := hI hx
 clear hW0' hB0 hz k0 k1 hx
 have HN := hI (fun W => fcIsCode_any x.other (by have := HX.out.other; omega) W)
 by_cases ho : codeOk x.other = true
 ·rw [ho] at HN
  rw [if_pos ho]
  clear ho
  by_cases hq : x.other = x.cur
  ·have z1 : (x.other.toList == x.cur.toList) = true := by rw [hq]; exact beq_self_eq_true _
   rw [if_pos hq]
   clear hq
   unfold Fact.cells at hW0 HK0 ⊢
   go_enter Tryz.func205, Tryz.ntmps205
   go_wp2_with fail
   refine (HN.out _).mono ?_
   rintro e w1 ⟨rfl, b1⟩
   have HB1 := hI (HB0.out.trans (b1.mono HB0.out.size))
   have hb := bkeepK b1 HK0.out
   have g5 := Lib.cell_of_heap hb 5
   have g6 := Lib.cell_of_heap hb 6
   have g7 := Lib.cell_of_heap hb 7
   simp at g5 g6 g7
   clear b1 hb
   go_wp2_with fail
   go_ret
   exact ⟨rfl, HB1.out⟩
  ·have z1 : (x.other.toList == x.cur.toList) = false := neq_toList hq
   rw [if_neg hq]
   clear hq
   unfold Fact.cells at hW0 HK0 ⊢
   go_enter Tryz.func205, Tryz.ntmps205
   go_wp2_with fail
   refine (HN.out _).mono ?_
   rintro e w1 ⟨rfl, b1⟩
   have HB1 := hI (HB0.out.trans (b1.mono HB0.out.size))
   have hb := bkeepK b1 HK0.out
   have g5 := Lib.cell_of_heap hb 5
   have g6 := Lib.cell_of_heap hb 6
   have g7 := Lib.cell_of_heap hb 7
   simp at g5 g6 g7
   clear b1 hb
   go_wp2_with fail
   go_ret
   exact ⟨rfl, HB1.out⟩
 ·have ho' : codeOk x.other = false := by simpa using ho
  rw [ho'] at HN
  rw [if_neg ho]
  clear ho ho'
  unfold Fact.cells at hW0 HK0 ⊢
  go_enter Tryz.func205, Tryz.ntmps205
  go_wp2_with fail
  refine (HN.out _).mono ?_
  rintro e w1 ⟨rfl, b1⟩
  have HB1 := hI (HB0.out.trans (b1.mono HB0.out.size))
  have hb := bkeepK b1 HK0.out
  have g5 := Lib.cell_of_heap hb 5
  have g6 := Lib.cell_of_heap hb 6
  have g7 := Lib.cell_of_heap hb 7
  simp at g5 g6 g7
  clear b1 hb
  go_wp2_with fail
  go_ret
  exact ⟨rfl, HB1.out⟩
theorem fcField_1n (x : Fact) (P O : Value) (s : ByteArray) (c : Int) (h : Nat → Bool) (y : Option Nat) (hx : x.tiny) (w : World) :
 Calls Tryz.prog 205 #[.agg (x.cells P O), .agg (kcells s c h (.map y) false), .int .i64 1] w fun e w' => e = .returned (.int .i64 (if nameOk x.other = true then (if x.other = x.inst then 18 else 0) else 23)) ∧ Below w.heap.size w w' := by
 show Calls _ _ #[.agg (x.cells P O), .agg #[.string s, .int .i64 c, .bool (h 0), .bool (h 1), .bool (h 2), .bool (h 3), .bool (h 4), .bool (h 5), .bool (h 6), .bool (h 7), .bool (h 8), .bool (h 9), .bool (h 10), .bool (h 11), .bool (h 12), .map y, .bool false], .int .i64 1] w _
 obtain ⟨W0, hW0', hB0, hz, k0, k1⟩ := box2 w (.cells (x.cells P O) 60) (.cells #[.string s, .int .i64 c, .bool (h 0), .bool (h 1), .bool (h 2), .bool (h 3), .bool (h 4), .bool (h 5), .bool (h 6), .bool (h 7), .bool (h 8), .bool (h 9), .bool (h 10), .bool (h 11), .bool (h 12), .map y, .bool false] 247)
 have hW0 := hW0'.symm
 have HK0 := hI k0
 have HK1 := hI k1
 have HB0 := hI hB0
 obtain ⟨c0, c1, c2, c3, c4, c5, c6, c7, c8, c9, c10, c11, c12, c13, c14, c15, c16, c17, c18, c19, c20⟩ := fact_cells k0
 have d15 := Lib.cell_of_heap k1 15
 have d16 := Lib.cell_of_heap k1 16
 simp at d15 d16
 have HX := hI hx
 clear hW0' hB0 hz k0 k1 hx
 have HN := hI (fun W => fcName_any x.other (by have := HX.out.other; omega) W)
 by_cases ho : nameOk x.other = true
 ·rw [ho] at HN
  rw [if_pos ho]
  clear ho
  by_cases hq : x.other = x.inst
  ·have z1 : (x.other.toList == x.inst.toList) = true := by rw [hq]; exact beq_self_eq_true _
   rw [if_pos hq]
   clear hq
   unfold Fact.cells at hW0 HK0 ⊢
   go_enter Tryz.func205, Tryz.ntmps205
   go_wp2_with fail
   refine (HN.out _).mono ?_
   rintro e w1 ⟨rfl, b1⟩
   have HB1 := hI (HB0.out.trans (b1.mono HB0.out.size))
   have hb := bkeepK b1 HK0.out
   have g5 := Lib.cell_of_heap hb 5
   have g6 := Lib.cell_of_heap hb 6
   have g7 := Lib.cell_of_heap hb 7
   simp at g5 g6 g7
   clear b1 hb
   go_wp2_with fail
   go_ret
   exact ⟨rfl, HB1.out⟩
  ·have z1 : (x.other.toList == x.inst.toList) = false := neq_toList hq
   rw [if_neg hq]
   clear hq
   unfold Fact.cells at hW0 HK0 ⊢
   go_enter Tryz.func205, Tryz.ntmps205
   go_wp2_with fail
   refine (HN.out _).mono ?_
   rintro e w1 ⟨rfl, b1⟩
   have HB1 := hI (HB0.out.trans (b1.mono HB0.out.size))
   have hb := bkeepK b1 HK0.out
   have g5 := Lib.cell_of_heap hb 5
   have g6 := Lib.cell_of_heap hb 6
   have g7 := Lib.cell_of_heap hb 7
   simp at g5 g6 g7
   clear b1 hb
   go_wp2_with fail
   go_ret
   exact ⟨rfl, HB1.out⟩
 ·have ho' : nameOk x.other = false := by simpa using ho
  rw [ho'] at HN
  rw [if_neg ho]
  clear ho ho'
  unfold Fact.cells at hW0 HK0 ⊢
  go_enter Tryz.func205, Tryz.ntmps205
  go_wp2_with fail
  refine (HN.out _).mono ?_
  rintro e w1 ⟨rfl, b1⟩
  have HB1 := hI (HB0.out.trans (b1.mono HB0.out.size))
  have hb := bkeepK b1 HK0.out
  have g5 := Lib.cell_of_heap hb 5
  have g6 := Lib.cell_of_heap hb 6
  have g7 := Lib.cell_of_heap hb 7
  simp at g5 g6 g7
  clear b1 hb
  go_wp2_with fail
  go_ret
  exact ⟨rfl, HB1.out⟩
structure FldC (w : World) (x : Fact) (P O : Value) (s : ByteArray) (c : Int) (h : Nat → Bool) (cd : Bool) (bm nn : Nat) (g : Int → Option Value) (p1 p2 : Nat) (p q : Bool) (W : World) : Prop where
 bx : BX w [(w.heap.size, .cells (x.cells P O) 60 (0, 0)), (w.heap.size + 1, .cells #[.string s, .int .i64 c, .bool (h 0), .bool (h 1), .bool (h 2), .bool (h 3), .bool (h 4), .bool (h 5), .bool (h 6), .bool (h 7), .bool (h 8), .bool (h 9), .bool (h 10), .bool (h 11), .bool (h 12), .map (some bm), .bool cd] 247 (0, 0)), (p1, .cells #[.bool p] 4 (0, 0)), (p2, .cells #[.bool q] 4 (0, 0))] W
 mp : Mp 3 keyI W bm nn g
theorem FldC.below {w : World} {x : Fact} {P O : Value} {s : ByteArray} {c : Int} {h : Nat → Bool} {cd : Bool} {bm nn : Nat} {g : Int → Option Value} {p1 p2 : Nat} {p q : Bool} {W W' : World} (hW : FldC w x P O s c h cd bm nn g p1 p2 p q W) (hb : Below W.heap.size W W') : FldC w x P O s c h cd bm nn g p1 p2 p q W' := ⟨hW.bx.below hb, hW.mp.below hb hW.mp.lt⟩
theorem fcField_n (x : Fact) (P O : Value) (s : ByteArray) (c : Int) (h : Nat → Bool) (cd : Bool) (hx : x.tiny) (f : Nat) (hf : f = 4 ∨ f = 5 ∨ f = 6 ∨ f = 7 ∨ f = 8 ∨ f = 9) (bm nn : Nat) (g : Int → Option Value) (v : Value) (p q : Bool) (w : World) (hM : Mp 3 keyI w bm nn g) (hg : g (f : Int) = some v) (hv : CloAt w v p q) (ht : Tabs w) :
 Calls Tryz.prog 205 #[.agg (x.cells P O), .agg (kcells s c h (.map (some bm)) cd), .int .i64 (f : Int)] w fun e w' => e = .returned (.int .i64 (numCode (x.num f).1 (x.num f).2 p q)) ∧ Below w.heap.size w w' := by
 show Calls _ _ #[.agg (x.cells P O), .agg #[.string s, .int .i64 c, .bool (h 0), .bool (h 1), .bool (h 2), .bool (h 3), .bool (h 4), .bool (h 5), .bool (h 6), .bool (h 7), .bool (h 8), .bool (h 9), .bool (h 10), .bool (h 11), .bool (h 12), .map (some bm), .bool cd], .int .i64 (f : Int)] w _
 obtain ⟨W0, hW0', hB0, hz, k0, k1⟩ := box2 w (.cells (x.cells P O) 60) (.cells #[.string s, .int .i64 c, .bool (h 0), .bool (h 1), .bool (h 2), .bool (h 3), .bool (h 4), .bool (h 5), .bool (h 6), .bool (h 7), .bool (h 8), .bool (h 9), .bool (h 10), .bool (h 11), .bool (h 12), .map (some bm), .bool cd] 247)
 have hW0 := hW0'.symm
 have HK0 := hI k0
 have HK1 := hI k1
 have HB0 := hI hB0
 obtain ⟨c0, c1, c2, c3, c4, c5, c6, c7, c8, c9, c10, c11, c12, c13, c14, c15, c16, c17, c18, c19, c20⟩ := fact_cells k0
 have d15 := Lib.cell_of_heap k1 15
 have d16 := Lib.cell_of_heap k1 16
 simp at d15 d16
 have HX := hI hx
 clear hW0' hB0 hz k0 k1 hx
 have mixed : Tryz.prog.follows .mixedOrders = true := by kernel_rfl
 obtain ⟨p1, p2, rfl, hp1, hp2⟩ := hv
 have HM := hI (hM.below HB0.out hM.lt)
 have HG : Hid (BX w [(w.heap.size, .cells (x.cells P O) 60 (0, 0)), (w.heap.size + 1, .cells #[.string s, .int .i64 c, .bool (h 0), .bool (h 1), .bool (h 2), .bool (h 3), .bool (h 4), .bool (h 5), .bool (h 6), .bool (h 7), .bool (h 8), .bool (h 9), .bool (h 10), .bool (h 11), .bool (h 12), .map (some bm), .bool cd] 247 (0, 0)), (p1, .cells #[.bool p] 4 (0, 0)), (p2, .cells #[.bool q] 4 (0, 0))] W0) := by
  refine ⟨HB0.out, fun z hz => ?_⟩
  simp only [List.mem_cons, List.not_mem_nil, or_false] at hz
  rcases hz with rfl | rfl | rfl | rfl
  ·exact HK0.out
  ·exact HK1.out
  ·exact (HB0.out.block _ (Array.getElem?_eq_some_iff.1 hp1).1).trans hp1
  ·exact (HB0.out.block _ (Array.getElem?_eq_some_iff.1 hp2).1).trans hp2
 have HT := hI ht
 have HV := hI (fun W => fcValue_any x P O f (by omega) W)
 have hsz := HX.out.num f
 have HQ := hI (fun W (hW : BX w [(w.heap.size, .cells (x.cells P O) 60 (0, 0)), (w.heap.size + 1, .cells #[.string s, .int .i64 c, .bool (h 0), .bool (h 1), .bool (h 2), .bool (h 3), .bool (h 4), .bool (h 5), .bool (h 6), .bool (h 7), .bool (h 8), .bool (h 9), .bool (h 10), .bool (h 11), .bool (h 12), .map (some bm), .bool cd] 247 (0, 0)), (p1, .cells #[.bool p] 4 (0, 0)), (p2, .cells #[.bool q] 4 (0, 0))] W) => between1_code (x.num f).1 (x.num f).2 p q p1 p2 W hsz.1 hsz.2 (hW.get 2 rfl) (hW.get 3 rfl) (HT.out.below hW.1))
 generalize numCode (x.num f).1 (x.num f).2 p q = r at HQ ⊢
 generalize x.num f = nm at HV HQ
 have HLK := hI (fun (W : World) (h : Mp 3 keyI W bm nn g) => h.look (t := 245) (e := 287) (int_keyed Tryz.underlying3) Tryz.underlying245 (z := .nilFunc) (by kernel_rfl) (keyOf_int_mk Tryz.underlying3 (a := (f : Int)) (wf_i64 (by omega) (by omega))))
 rw [hg] at HLK
 have e0 : ((f : Int) == 0) = false := beq_eq_false_iff_ne.2 (by omega)
 have e1 : ((f : Int) == 1) = false := beq_eq_false_iff_ne.2 (by omega)
 have e2 : ((f : Int) == 2) = false := beq_eq_false_iff_ne.2 (by omega)
 have e3 : ((f : Int) == 3) = false := beq_eq_false_iff_ne.2 (by omega)
 have e10 : ((f : Int) == 10) = false := beq_eq_false_iff_ne.2 (by omega)
 have e11 : ((f : Int) == 11) = false := beq_eq_false_iff_ne.2 (by omega)
 have e12 : ((f : Int) == 12) = false := beq_eq_false_iff_ne.2 (by omega)
 clear hf hM hp1 hp2 ht hsz hg
 unfold Fact.cells at hW0 HK0 HV HG HQ ⊢
 go_enter Tryz.func205, Tryz.ntmps205
 go_wp2_with fail
 refine wp_region_quietC (FldC w x P O s c h cd bm nn g p1 p2 p q) mixed (by kernel_rfl) ⟨⟨HG.out.1.drew, HG.out.2⟩, HM.out⟩ ?_
 iterate 9
  first
  | (refine wpQuiet_load_row rfl 60 _ rfl w.heap.size rfl _ _ (0, 0) _ (fun W hW => hW.bx.get 0 rfl) Tryz.underlying60 rfl (by kernel_rfl) ?_; go_frame)
  | (
     refine wpQuiet_step (fun K hK => ?_)
     go_simp
     first
     | (refine hK _ ?_; clear hK K)
     | (refine ⟨_, fun _ _ => rfl, hK _ ?_⟩; clear hK K)
     | (refine ⟨.map (some bm), fun W hW => ?_, hK _ ?_⟩
        focus
         have d15 := Lib.cell_of_heap (hW.bx.get 1 rfl) 15
         simp at d15
         go_simp
         done
        clear hK K)
     | (refine ⟨.func (.func 278) #[] #[.pointer (some ⟨p1, 0, none⟩), .pointer (some ⟨p2, 0, none⟩)], fun W hW => ?_, hK _ ?_⟩
        focus
         have hl := HLK.out W hW.mp
         simp only [Option.getD_some] at hl
         go_simp
         done
        clear hK K)
     | (refine ⟨.agg #[.string nm.1, .string nm.2], fun W hW => ?_, hK _ ?_⟩
        focus
         refine (HV.out W).mono ?_
         rintro e wn ⟨rfl, hb⟩
         exact ⟨rfl, hW.below hb⟩
        clear hK K)
     | (refine ⟨.int .i64 r, fun W hW => ?_, hK _ ?_⟩
        focus
         refine (HQ.out W hW.bx).mono ?_
         rintro e wn ⟨rfl, hb⟩
         exact ⟨rfl, hW.below hb⟩
        clear hK K))
 refine wpQuiet_nil ?_
 intro w5 hw5
 have HG5 := hI hw5
 clear hw5
 go_wp2_with fail
 go_ret
 exact ⟨rfl, HG5.out.bx.1⟩
structure Rw (q : Nat) (W W' : World) : Prop where
 size : W'.heap.size = W.heap.size
 other : ∀ j, j ≠ q → W'.heap[j]? = W.heap[j]?
 zero : W.heap[q]? = some kzero
theorem Stp_row {W : World} {q : Nat} (h : W.heap[q]? = some kzero) (vals : Array Value) : Rw q W (W.setRow q vals) := ⟨by simp [World.setRow], fun j hj => setRow_other _ _ _ _ hj, h⟩
theorem Mp.row {k : TypeId} {W W' : World} {b n q : Nat} {f : Int → Option Value} (h : Mp k keyI W b n f) (hr : Rw q W W') : Mp k keyI W' b n f := by
 refine h.kept (hr.other b fun e => ?_)
 obtain ⟨es, c, hm⟩ := h.is_map
 rw [e, hr.zero] at hm; cases hm
theorem CloAt.row {W W' : World} {v : Value} {p r : Bool} {q : Nat} (h : CloAt W v p r) (hr : Rw q W W') : CloAt W' v p r := by
 obtain ⟨b1, b2, e, h1, h2⟩ := h
 have ne : ∀ (b : Nat) (y : Bool), W.heap[b]? = some (.cells #[.bool y] 4 (0, 0)) → b ≠ q := fun b y hb e => by
  rw [e, hr.zero] at hb
  injection hb with hb
  injection hb with hb _ _
  have := congrArg Array.size hb
  simp [kcells] at this
 exact ⟨b1, b2, e, (hr.other _ (ne _ _ h1)).trans h1, (hr.other _ (ne _ _ h2)).trans h2⟩
theorem NumAt.below {W W' : World} {nm : Value} {k : Nat} (h : NumAt W nm k) (hb : Below W.heap.size W W') : NumAt W' nm k := by
 rcases h with h | ⟨b, n, g, e, hM, hf⟩
 ·exact .inl h
 ·exact .inr ⟨b, n, g, e, hM.below hb hM.lt, fun f h1 h2 h3 => by obtain ⟨v, hv, hc⟩ := hf f h1 h2 h3; exact ⟨v, hv, hc.below hb⟩⟩
theorem NumAt.row {W W' : World} {nm : Value} {k q : Nat} (h : NumAt W nm k) (hr : Rw q W W') : NumAt W' nm k := by
 rcases h with h | ⟨b, n, g, e, hM, hf⟩
 ·exact .inl h
 ·exact .inr ⟨b, n, g, e, hM.row hr, fun f h1 h2 h3 => by obtain ⟨v, hv, hc⟩ := hf f h1 h2 h3; exact ⟨v, hv, hc.row hr⟩⟩
theorem KindsAt.below {W W' : World} {b : Nat} (h : KindsAt W b) (hb : Below W.heap.size W W') : KindsAt W' b := by
 obtain ⟨n, g, hM, hx⟩ := h
 exact ⟨n, g, hM.below hb hM.lt, fun x => ⟨(hx x).1, fun h => by obtain ⟨nm, h1, h2⟩ := (hx x).2 h; exact ⟨nm, h1, h2.below hb⟩⟩⟩
theorem KindsAt.row {W W' : World} {b q : Nat} (h : KindsAt W b) (hr : Rw q W W') : KindsAt W' b := by
 obtain ⟨n, g, hM, hx⟩ := h
 exact ⟨n, g, hM.row hr, fun x => ⟨(hx x).1, fun h => by obtain ⟨nm, h1, h2⟩ := (hx x).2 h; exact ⟨nm, h1, h2.row hr⟩⟩⟩
theorem BX.row {w : World} {l : List (Nat × Obj)} {W : World} {q : Nat} (h : BX w l W) (hq : w.heap.size ≤ q) (hn : ∀ z, z ∈ l → z.1 ≠ q) (vals : Array Value) : BX w l (W.setRow q vals) :=
 ⟨below_setRowK h.1 hq vals, fun z hz => (setRow_other _ _ _ _ (hn z hz)).trans (h.2 z hz)⟩
def isK (x : Fact) : Bool := decide (1 ≤ x.kind ∧ x.kind ≤ 18)
abbrev kcx (x : Fact) (nm : Option Nat) : Array Value := kcells (kword x.kind.toNat) (kclass x.kind.toNat) (fun f => (kfs x.kind.toNat).contains f) (.map nm) (kcode x.kind.toNat)
def KmP (W : World) (b : Nat) (v : Value) : Prop := v = .map (some b) ∧ KindsAt W b
def KvP (x : Fact) (v : Value) (W : World) : Prop := ∃ nm, v = .agg (kcx x nm) ∧ NumAt W (.map nm) x.kind.toNat
def LookP (x : Fact) (v : Value) (W : World) : Prop := ∃ nm, v = .tuple #[.agg (kcx x nm), .bool (isK x)] ∧ NumAt W (.map nm) x.kind.toNat
def KzP (w : World) (q : Nat) (v : Value) (W : World) : Prop := v = .pointer (some ⟨q, 0, none⟩) ∧ w.heap.size ≤ q ∧ q ≠ w.heap.size ∧ W.heap[q]? = some kzero
def KbP (w : World) (x : Fact) (q : Nat) (v : Value) (W : World) : Prop := v = .pointer (some ⟨q, 0, none⟩) ∧ w.heap.size ≤ q ∧ q ≠ w.heap.size ∧ ∃ nm, W.heap[q]? = some (.cells (kcx x nm) 247 (0, 0)) ∧ NumAt W (.map nm) x.kind.toNat
section
variable {w W W' : World} {x : Fact} {b q : Nat} {v : Value}
theorem KmP.below (h : KmP W b v) (hb : Below W.heap.size W W') : KmP W' b v := ⟨h.1, h.2.below hb⟩
theorem KmP.row (h : KmP W b v) (hr : Rw q W W') : KmP W' b v := ⟨h.1, h.2.row hr⟩
theorem KvP.below (h : KvP x v W) (hb : Below W.heap.size W W') : KvP x v W' := by obtain ⟨nm, e, hn⟩ := h; exact ⟨nm, e, hn.below hb⟩
theorem KvP.row (h : KvP x v W) (hr : Rw q W W') : KvP x v W' := by obtain ⟨nm, e, hn⟩ := h; exact ⟨nm, e, hn.row hr⟩
theorem LookP.below (h : LookP x v W) (hb : Below W.heap.size W W') : LookP x v W' := by obtain ⟨nm, e, hn⟩ := h; exact ⟨nm, e, hn.below hb⟩
theorem LookP.row (h : LookP x v W) (hr : Rw q W W') : LookP x v W' := by obtain ⟨nm, e, hn⟩ := h; exact ⟨nm, e, hn.row hr⟩
theorem KzP.below (h : KzP w q v W) (hb : Below W.heap.size W W') : KzP w q v W' := ⟨h.1, h.2.1, h.2.2.1, bkeepK hb h.2.2.2⟩
theorem KbP.below (h : KbP w x q v W) (hb : Below W.heap.size W W') : KbP w x q v W' := by
 obtain ⟨h1, h2, h3, nm, h4, h5⟩ := h
 exact ⟨h1, h2, h3, nm, bkeepK hb h4, h5.below hb⟩
end
theorem kst_bad {k : Nat} (h : ¬ (1 ≤ k ∧ k ≤ 18)) (nm : Value) : kcells (kword k) (kclass k) (fun f => (kfs k).contains f) nm (kcode k) = kcells ⟨#[]⟩ 0 (fun _ => false) nm false := by
 rcases (show k = 0 ∨ ∃ m, k = m + 19 from by
  by_cases h0 : k = 0
  ·exact .inl h0
  ·exact .inr ⟨k - 19, by omega⟩) with rfl | ⟨m, rfl⟩
 ·rfl
 ·have e : kcode (m + 19) = false := by unfold kcode; simp
  rw [e]
  rfl
theorem kfs_bad {k : Nat} (h : ¬ (1 ≤ k ∧ k ≤ 18)) : kfs k = [] := by
 rcases (show k = 0 ∨ ∃ m, k = m + 19 from by
  by_cases h0 : k = 0
  ·exact .inl h0
  ·exact .inr ⟨k - 19, by omega⟩) with rfl | ⟨m, rfl⟩ <;> rfl
theorem zero_kind (W : World) : (zeroValue 247).run Tryz.prog W = .ok (.agg (kcells ⟨#[]⟩ 0 (fun _ => false) (.map none) false)) W := by kernel_rfl
theorem KindsAt.look {W : World} {b : Nat} (h : KindsAt W b) (x : Fact) (hw : (Lit.int .i64 x.kind).wf = true) : ∃ nm, (Instr.lookup 249 (.map (some b)) (.int .i64 x.kind) true).run Tryz.prog W = .ok (.tuple #[.agg (kcx x nm), .bool (isK x)]) W ∧ NumAt W (.map nm) x.kind.toNat := by
 obtain ⟨n, g, hM, hx⟩ := h
 have hl := hM.look_ok (t := 249) (e := 247) (int_keyed Tryz.underlying3) Tryz.underlying249 (zero_kind W) (keyOf_int_mk Tryz.underlying3 hw)
 by_cases hk : 1 ≤ x.kind ∧ x.kind ≤ 18
 ·obtain ⟨nm, hg, hn⟩ := (hx x.kind).2 hk
  refine ⟨nm, ?_, hn⟩
  rw [hl, hg, show isK x = true from decide_eq_true hk]
  rfl
 ·have hb : ¬ (1 ≤ x.kind.toNat ∧ x.kind.toNat ≤ 18) := by omega
  refine ⟨none, ?_, .inl ⟨rfl, fun f hf => by rw [kfs_bad hb] at hf; cases hf⟩⟩
  rw [hl, (hx x.kind).1 hk, show isK x = false from decide_eq_false hk]
  unfold kcx
  rw [kst_bad hb]
  rfl
theorem step_store_runK {P : Program} {ops : Array Oper} {o : Oper} {a : Act} {K : Act → World → Prop} {Q : Exit → Act → World → Prop} {E : Prop} {t : TypeId} {pv xv : Value} {w w' : World} (hr : (Instr.storeAt t pv xv).run P w = .ok () w') (hgd : o.guard = none) (p x : Operand)
 (ho : o.op = .store t p x) (hp : a.eval p = pv) (hx : a.eval x = xv) (h : K (a.put o.dst undef) w') : if Region.wanted o (yielded ops a.tmps) = true then Oper.wp P o a w K Q else E := by
 have hw : Region.wanted o (yielded ops a.tmps) = true := by simp [Region.wanted, hgd]
 rw [if_pos hw]
 unfold Oper.wp execOp
 simp only [ho, hp, hx, Sem.run_bind, Sem.run_pure, Result.andThen_ok, hr]
 exact h
def FieldC (x : Fact) (P O : Value) (w : World) (f : Nat) : Prop := ∀ (W : World) (nm : Option Nat), Below w.heap.size w W → NumAt W (.map nm) x.kind.toNat →
 Calls Tryz.prog 205 #[.agg (x.cells P O), .agg (kcx x nm), .int .i64 (f : Int)] W fun e w' => ∃ c : Int, e = .returned (.int .i64 c) ∧ (c = 0 ↔ fieldOk x x.kind.toNat f) ∧ Below W.heap.size W w'
theorem kfs_lt : ((List.range 19).all fun k => (kfs k).all fun f => Nat.blt f 13) = true := by kernel_rfl
theorem kfs_lt' {k f : Nat} (h : f ∈ kfs k) : f < 13 := by
 by_cases hk : k < 19
 ·have := all_range kfs_lt hk
  rw [List.all_eq_true] at this
  have := this f h
  simpa using this
 ·rw [kfs_bad (by omega)] at h; cases h
theorem if_zero {p : Prop} [Decidable p] {c : Int} (hc : c ≠ 0) : (if p then (0 : Int) else c) = 0 ↔ p := by
 by_cases h : p
 ·simp [h]
 ·simp [h, hc]
theorem fieldC_simple {x : Fact} {P O : Value} {w : World} (hx : x.tiny) (ht : Tabs w) {f : Nat} (hf : f ∈ kfs x.kind.toNat) (h10 : f ≠ 10) (h11 : f ≠ 11) : FieldC x P O w f := by
 intro W nm hb hn
 have hlt := kfs_lt' hf
 rcases (show f = 0 ∨ f = 1 ∨ f = 2 ∨ f = 3 ∨ f = 12 ∨ (f = 4 ∨ f = 5 ∨ f = 6 ∨ f = 7 ∨ f = 8 ∨ f = 9) from by omega) with rfl | rfl | rfl | rfl | rfl | hf2
 ·refine (fcField_0 x P O _ _ _ nm _ hx W).mono ?_
  rintro e w' ⟨rfl, b⟩
  exact ⟨_, rfl, if_zero (by omega), b⟩
 ·cases hc : kcode x.kind.toNat with
  | true =>
    unfold kcx
    rw [hc]
    refine (fcField_1c x P O _ _ _ nm hx W).mono ?_
    rintro e w' ⟨rfl, b⟩
    refine ⟨_, rfl, ?_, b⟩
    have e : fieldOk x x.kind.toNat 1 ↔ (codeOk x.other = true ∧ x.other ≠ x.cur) := by
     show (if kcode x.kind.toNat = true then codeOk x.other = true ∧ x.other ≠ x.cur else nameOk x.other = true ∧ x.other ≠ x.inst) ↔ _
     rw [if_pos hc]
    rw [e]
    by_cases h1 : codeOk x.other = true
    ·rw [if_pos h1]
     by_cases h2 : x.other = x.cur
     ·rw [if_pos h2]; exact ⟨fun h => absurd h (by omega), fun h => absurd h2 h.2⟩
     ·rw [if_neg h2]; exact ⟨fun _ => ⟨h1, h2⟩, fun _ => rfl⟩
    ·rw [if_neg h1]; exact ⟨fun h => absurd h (by omega), fun h => absurd h.1 h1⟩
  | false =>
    unfold kcx
    rw [hc]
    refine (fcField_1n x P O _ _ _ nm hx W).mono ?_
    rintro e w' ⟨rfl, b⟩
    refine ⟨_, rfl, ?_, b⟩
    have e : fieldOk x x.kind.toNat 1 ↔ (nameOk x.other = true ∧ x.other ≠ x.inst) := by
     show (if kcode x.kind.toNat = true then codeOk x.other = true ∧ x.other ≠ x.cur else nameOk x.other = true ∧ x.other ≠ x.inst) ↔ _
     rw [if_neg (by rw [hc]; simp)]
    rw [e]
    by_cases h1 : nameOk x.other = true
    ·rw [if_pos h1]
     by_cases h2 : x.other = x.inst
     ·rw [if_pos h2]; exact ⟨fun h => absurd h (by omega), fun h => absurd h2 h.2⟩
     ·rw [if_neg h2]; exact ⟨fun _ => ⟨h1, h2⟩, fun _ => rfl⟩
    ·rw [if_neg h1]; exact ⟨fun h => absurd h (by omega), fun h => absurd h.1 h1⟩
 ·refine (fcField_2 x P O _ _ _ nm _ hx W).mono ?_
  rintro e w' ⟨rfl, b⟩
  exact ⟨_, rfl, if_zero (by omega), b⟩
 ·refine (fcField_3 x P O _ _ _ nm _ hx W).mono ?_
  rintro e w' ⟨rfl, b⟩
  exact ⟨_, rfl, if_zero (by omega), b⟩
 ·refine (fcField_12 x P O _ _ _ nm _ hx W).mono ?_
  rintro e w' ⟨rfl, b⟩
  refine ⟨_, rfl, ?_, b⟩
  show _ ↔ 0 ≤ x.choice
  split <;> omega
 ·rcases hn with ⟨_, hno⟩ | ⟨bm, nn, g, e, hM, hnf⟩
  ·exact absurd ⟨by omega, by omega⟩ (hno f hf)
  ·injection e with e
   subst e
   obtain ⟨v, hg, hv⟩ := hnf f hf (by omega) (by omega)
   refine (fcField_n x P O _ _ _ _ hx f hf2 bm nn g v _ _ W hM hg hv (ht.below hb)).mono ?_
   rintro e w' ⟨rfl, b⟩
   refine ⟨_, rfl, ?_, b⟩
   rw [numCode_zero]
   rcases hf2 with rfl | rfl | rfl | rfl | rfl | rfl <;> exact Iff.rfl
structure FKV (w : World) (x : Fact) (P O : Value) (bk q : Nat) (L : Array Bool) (W : World) (s3 s4 s32 s33 s34 s35 s36 s37 s38 : Value) : Prop where
 bx : BX w [(w.heap.size, .cells (x.cells P O) 60 (0, 0))] W
 g0 : L.getD 0 false = true → KmP W bk s33
 k1 : L.getD 1 false = true → s34 = .pointer (some ⟨w.heap.size, 4, none⟩)
 k2 : L.getD 2 false = true → s35 = .int .i64 x.kind
 g3 : L.getD 3 false = true → LookP x s36 W
 g4 : L.getD 4 false = true → LookP x s32 W
 g5 : L.getD 5 false = true → KvP x s37 W
 g6 : L.getD 6 false = true → s38 = .bool (isK x)
 g7 : L.getD 7 false = true → L.getD 8 false = false → KzP w q s3 W
 g8 : L.getD 8 false = true → KbP w x q s3 W
 q8 : L.getD 8 false = true → L.getD 7 false = true
 g9 : L.getD 9 false = true → s4 = .bool (isK x)
structure FKJ (w : World) (x : Fact) (P O : Value) (x2 x5 x6 x7 x8 x9 x10 x11 x12 x13 x14 x15 x16 x17 x18 x19 x20 x21 x22 x23 x24 x25 x26 x27 x28 x29 x30 x31 x39 x40 x41 x42 x43 x44 x45 x46 x47 x48 x49 x50 x51 x52 x53 x54 x55 x56 x57 x58 x59 : Value) (L : Array Bool) (a : Act) (W : World) : Prop where
 sz : L.size = 10
 fr : ∃ bk q : Nat, ∃ s3 s4 s32 s33 s34 s35 s36 s37 s38 : Value, a = { tmps := #[.agg (x.cells P O), .pointer (some ⟨w.heap.size, 0, none⟩), x2, s3, s4, x5, x6, x7, x8, x9, x10, x11, x12, x13, x14, x15, x16, x17, x18, x19, x20, x21, x22, x23, x24, x25, x26, x27, x28, x29, x30, x31, s32, s33, s34, s35, s36, s37, s38, x39, x40, x41, x42, x43, x44, x45, x46, x47, x48, x49, x50, x51, x52, x53, x54, x55, x56, x57, x58, x59], defers := [] } ∧ FKV w x P O bk q L W s3 s4 s32 s33 s34 s35 s36 s37 s38
structure FkW (w : World) (x : Fact) (P O : Value) (q : Nat) (nm : Option Nat) (W : World) : Prop where
 bx : BX w [(w.heap.size, .cells (x.cells P O) 60 (0, 0))] W
 kb : W.heap[q]? = some (.cells (kcx x nm) 247 (0, 0))
 nu : NumAt W (.map nm) x.kind.toNat
 q1 : w.heap.size ≤ q
 q2 : q ≠ w.heap.size
theorem FkW.below {w : World} {x : Fact} {P O : Value} {q : Nat} {nm : Option Nat} {W W' : World} (h : FkW w x P O q nm W) (hb : Below W.heap.size W W') : FkW w x P O q nm W' := ⟨h.bx.below hb, bkeepK hb h.kb, h.nu.below hb, h.q1, h.q2⟩
def Fg (x : Fact) (f : Nat) : Prop := if f ∈ kfs x.kind.toNat then fieldOk x x.kind.toNat f else emptyF x f
theorem fcCheck_of (x : Fact) (P O : Value) (hv : FactV x P O) (hx : x.tiny) (hw : (Lit.int .i64 x.kind).wf = true) (hc : x.canc = false) (w : World) (ht : Tabs w) (hF : ∀ f, f ∈ kfs x.kind.toNat → FieldC x P O w f) :
 Calls Tryz.prog 155 #[.agg (x.cells P O)] w fun e w' => ∃ c : Int, e = .returned (.int .i64 c) ∧ (c = 0 ↔ FOk x) ∧ Below w.heap.size w w' := by
 obtain ⟨W0, hW0⟩ : ∃ W0, w.alloc (.cells (x.cells P O) 60) = W0 := ⟨_, rfl⟩
 have hb0 : Below w.heap.size w W0 := by rw [← hW0]; exact (Below.refl _ w).alloc (Nat.le_refl _) _
 have hk0 : W0.heap[w.heap.size]? = some (.cells (x.cells P O) 60 (0, 0)) := by rw [← hW0]; exact heap_alloc_new w _
 have HG0 : Hid (BX w [(w.heap.size, .cells (x.cells P O) 60 (0, 0))] W0) := ⟨hb0, fun z hz => by rw [List.mem_singleton] at hz; subst hz; exact hk0⟩
 obtain ⟨c0, c1, c2, c3, c4, c5, c6, c7, c8, c9, c10, c11, c12, c13, c14, c15, c16, c17, c18, c19, c20⟩ := fact_cells hk0
 have HN := hI (fun W => Name_any x.key (by have := hx.key; omega) W)
 have HFO : Hid (FOk x ↔ nameOk x.key = true ∧ 0 ≤ x.stamp ∧ okDay x.day ∧ (1 ≤ x.kind ∧ x.kind ≤ 18) ∧ ∀ f, f < 13 → Fg x f) := by
  show FOk x ↔ _
  unfold FOk Fg
  rw [if_neg (by rw [hc]; simp)]
 have HE := hI (fun f hf W => fcEmpty_any x P O hv f hf W)
 have HF := hI hF
 have HT := hI ht
 have HWF := hI hw
 generalize FOk x = fok at HFO ⊢
 have HCN := hI hc
 clear hb0 hk0 hx hv hF ht hw hc
 unfold Fact.cells at hW0
 show Calls _ _ #[.agg #[.string x.key, .int .i64 x.stamp, .bool x.canc, .int .i64 x.day, .int .i64 x.kind, .string x.inst, .string x.other, .string x.cur, .string x.target, .string x.qty, .string x.amt, .string x.fee, .string x.pn, .string x.pd, .string x.rn, .string x.rd, .string x.sn, .string x.sd, P, O, .int .i64 x.choice]] w _
 go_enter Tryz.func155, Tryz.ntmps155
 go_wp2_with fail
 refine (HN.out _).mono ?_
 rintro e w1 ⟨rfl, b1⟩
 have HG1 := hI (HG0.out.below b1)
 clear b1 HG0 hW0 c0 c1 c2 c3 c4 c5 c6 c7 c8 c9 c10 c11 c12 c13 c14 c15 c16 c17 c18 c19 c20
 obtain ⟨c0, c1, c2, c3, c4, c5, c6, c7, c8, c9, c10, c11, c12, c13, c14, c15, c16, c17, c18, c19, c20⟩ := fact_cells (HG1.out.get 0 rfl)
 rw [HCN.out] at c2
 cases hkey : nameOk x.key with
 | false =>
   have HKY := hI hkey
   clear hkey
   go_wp2_with fail
   go_ret
   exact ⟨23, rfl, ⟨fun h => absurd h (by omega), fun h => by have := (HFO.out.1 h).1; rw [HKY.out] at this; cases this⟩, HG1.out.1⟩
 | true =>
 have HKY := hI hkey
 clear hkey
 by_cases hst : x.stamp < 0
 ·have z1 : decide (x.stamp < 0) = true := decide_eq_true hst
  have HST := hI hst
  clear hst
  go_wp2_with fail
  go_ret
  exact ⟨2, rfl, ⟨fun h => absurd h (by omega), fun h => by have h1 := (HFO.out.1 h).2.1; have h2 := HST.out; omega⟩, HG1.out.1⟩
 have z1 : decide (x.stamp < 0) = false := decide_eq_false hst
 have HST := hI hst
 clear hst
 by_cases hdy : okDay x.day
 case neg =>
  have HDY := hI hdy
  unfold okDay at hdy
  by_cases hd1 : x.day < -25567
  ·have z2 : decide (x.day < -25567) = true := decide_eq_true hd1
   clear hd1 hdy
   go_wp2_with fail
   go_ret
   exact ⟨13, rfl, ⟨fun h => absurd h (by omega), fun h => absurd (HFO.out.1 h).2.2.1 HDY.out⟩, HG1.out.1⟩
  ·have z2 : decide (x.day < -25567) = false := decide_eq_false hd1
   have z3 : decide (84005 < x.day) = true := decide_eq_true (by omega)
   clear hd1 hdy
   go_wp2_with fail
   go_ret
   exact ⟨13, rfl, ⟨fun h => absurd h (by omega), fun h => absurd (HFO.out.1 h).2.2.1 HDY.out⟩, HG1.out.1⟩
 have HDY := hI hdy
 unfold okDay at hdy
 have z2 : decide (x.day < -25567) = false := decide_eq_false (by omega)
 have z3 : decide (84005 < x.day) = false := decide_eq_false (by omega)
 clear hdy
 go_wp2_with fail
 have hg : BX w [(w.heap.size, .cells (x.cells P O) 60 (0, 0))] w1.drew := ⟨HG1.out.1.drew, HG1.out.2⟩
 have hw := HWF.out
 clear c0 c1 c2 c3 c4 c5 c6 c7 c8 c9 c10 c11 c12 c13 c14 c15 c16 c17 c18 c19 c20
 have mixed : Tryz.prog.follows .mixedOrders = true := by kernel_rfl
 refine wp_region_any mixed (wpAny_inv (FKJ w x P O _ _ _ _ _ _ _ _ _ _ _ _ _ _ _ _ _ _ _ _ _ _ _ _ _ _ _ _ _ _ _ _ _ _ _ _ _ _ _ _ _ _ _ _ _ _ _ _ _) ?stFK ?dnFK _ _ _ _ ⟨by simp, ⟨0, 0, _, _, _, _, _, _, _, _, _, rfl, hg, fun h => by simp at h, fun h => by simp at h, fun h => by simp at h, fun h => by simp at h, fun h => by simp at h, fun h => by simp at h, fun h => by simp at h, fun h => by simp at h, fun h => by simp at h, fun h => by simp at h, fun h => by simp at h⟩⟩ (by decide))
 case dnFK =>
  intro L a w' hj hr
  have all := all_on hr hj.sz (by kernel_rfl)
  obtain ⟨bk, q, s3, s4, s32, s33, s34, s35, s36, s37, s38, rfl, hv⟩ := hj.fr
  obtain ⟨hs3, hq1, hq2, nm, hqk, hnm⟩ := hv.g8 (all 8 (by omega))
  have hs4 := hv.g9 (all 9 (by omega))
  subst hs3 hs4
  have HW := hI (show FkW w x P O q nm w' from ⟨hv.bx, hqk, hnm, hq1, hq2⟩)
  clear all hv hj hr hqk hnm hq1 hq2
  by_cases hk : 1 ≤ x.kind ∧ x.kind ≤ 18
  ·have hk1 : isK x = true := decide_eq_true hk
   have HK := hI hk
   rw [hk1]
   clear hk hk1
   go_wp2_with fail
   go_loopw [41, 5, 6] (fun v41 _ _ wr => ∃ j : Nat, v41 = .int .i64 (j : Int) ∧ j ≤ 13 ∧ FkW w x P O q nm wr ∧ ∀ f, f < j → Fg x f) (fun v41 _ _ _ => 13 - (intOf v41).toNat)
   case atStart => exact ⟨0, rfl, by omega, HW.out, fun f hf => by omega⟩
   case round =>
    obtain ⟨j, rfl, hj, hW, hG⟩ := hrel
    have HWR := hI hW
    have HGR := hI hG
    clear hW hG HW
    rcases Nat.lt_or_ge j 13 with hlt | hge
    ·have z4 : decide ((j : Int) < 13) = true := decide_eq_true (by omega)
     have y1 : (0 : Int) ≤ (j : Int) := by omega
     have y2 : (j : Int) < 13 := by omega
     have hcell := Lib.cell_of_heap HWR.out.kb (2 + j)
     rw [kcells_at _ _ _ _ _ hlt] at hcell
     cases hmem : (kfs x.kind.toNat).contains j with
     | true =>
       simp only [hmem] at hcell
       have HM : Hid (j ∈ kfs x.kind.toNat) := List.contains_iff_mem.1 hmem
       clear hmem
       go_wp2_with (first | (refine wpList_load_row rfl 60 _ rfl w.heap.size rfl _ _ (0, 0) _ (HWR.out.bx.get 0 rfl) Tryz.underlying60 rfl (by kernel_rfl) ?_) | (refine wpList_load_row rfl 247 _ rfl q rfl _ _ (0, 0) _ HWR.out.kb Tryz.underlying247 rfl (by kernel_rfl) ?_) | fail)
       refine (HF.out j HM.out _ nm HWR.out.bx.1 HWR.out.nu).mono ?_
       rintro e w5 ⟨c, rfl, hc, hb5⟩
       have HC := hI hc
       have HB5 := hI hb5
       clear hc hb5 hcell
       by_cases h0 : c = 0
       ·have z5 : (c != 0) = false := by rw [h0]; rfl
        have z6 : (c == 0) = true := beq_iff_eq.2 h0
        have H0 := hI h0
        clear h0
        go_wp2_with fail
        go_roundw
        case rel =>
         refine ⟨j + 1, by go_num, by omega, HWR.out.below HB5.out, fun f hf => ?_⟩
         rcases Nat.lt_or_ge f j with h | h
         ·exact HGR.out f h
         ·have : f = j := by omega
          subst this
          unfold Fg
          rw [if_pos HM.out]
          exact HC.out.1 H0.out
        case measure => simp [intOf]; omega
       ·have z6 : (c == 0) = false := beq_eq_false_iff_ne.2 h0
        have z5 : (c != 0) = true := by unfold bne; rw [z6]; rfl
        have H0 := hI h0
        clear h0
        go_wp2_with fail
        go_ret
        refine ⟨c, rfl, ⟨fun h => absurd h H0.out, fun h => ?_⟩, HWR.out.bx.1.trans (HB5.out.mono HWR.out.bx.1.size)⟩
        have h1 := (HFO.out.1 h).2.2.2.2 j hlt
        unfold Fg at h1
        rw [if_pos HM.out] at h1
        exact absurd (HC.out.2 h1) H0.out
     | false =>
       simp only [hmem] at hcell
       have HM : Hid (¬ j ∈ kfs x.kind.toNat) := fun h => by rw [List.contains_iff_mem.2 h] at hmem; cases hmem
       have HEM := hI (emptyB_iff x hlt)
       clear hmem
       go_wp2_with (first | (refine wpList_load_row rfl 60 _ rfl w.heap.size rfl _ _ (0, 0) _ (HWR.out.bx.get 0 rfl) Tryz.underlying60 rfl (by kernel_rfl) ?_) | fail)
       refine (HE.out j hlt _).mono ?_
       rintro e w5 ⟨rfl, hb5⟩
       have HB5 := hI hb5
       clear hb5 hcell
       cases hem : emptyB x j with
       | true =>
         have H0 := hI (HEM.out.1 hem)
         clear hem
         go_wp2_with fail
         go_roundw
         case rel =>
          refine ⟨j + 1, by go_num, by omega, HWR.out.below HB5.out, fun f hf => ?_⟩
          rcases Nat.lt_or_ge f j with h | h
          ·exact HGR.out f h
          ·have : f = j := by omega
           subst this
           unfold Fg
           rw [if_neg HM.out]
           exact H0.out
         case measure => simp [intOf]; omega
       | false =>
         have H0 : Hid (¬ emptyF x j) := fun h => by rw [HEM.out.2 h] at hem; cases hem
         clear hem
         go_wp2_with fail
         go_ret
         refine ⟨1, rfl, ⟨fun h => absurd h (by omega), fun h => ?_⟩, HWR.out.bx.1.trans (HB5.out.mono HWR.out.bx.1.size)⟩
         have h1 := (HFO.out.1 h).2.2.2.2 j hlt
         unfold Fg at h1
         rw [if_neg HM.out] at h1
         exact absurd h1 H0.out
    ·have z4 : decide ((j : Int) < 13) = false := decide_eq_false (by omega)
     have hj13 : j = 13 := by omega
     go_wp2_with fail
     go_ret
     refine ⟨0, rfl, ⟨fun _ => HFO.out.2 ⟨HKY.out, (by have := HST.out; omega), HDY.out, HK.out, fun f hf => HGR.out f (by omega)⟩, fun _ => rfl⟩, HWR.out.bx.1⟩
  ·have hk1 : isK x = false := decide_eq_false hk
   have HK := hI hk
   rw [hk1]
   clear hk hk1
   go_wp2_with fail
   go_ret
   exact ⟨7, rfl, ⟨fun h => absurd h (by omega), fun h => absurd (HFO.out.1 h).2.2.2.1 HK.out⟩, HW.out.bx.1⟩
 case stFK =>
  intro L a w' hj i hi
  obtain ⟨hun, o, ho, hall⟩ := mem_ready.1 hi
  have hoff := getD_off hun
  have hlt := (Array.getElem?_eq_some_iff.1 ho).1
  simp at hlt
  obtain ⟨bk, q, s3, s4, s32, s33, s34, s35, s36, s37, s38, rfl, hv⟩ := hj.fr
  have HV := hI hv
  have HJ := hI hj
  clear hv hj
  rcases (show i = 0 ∨ i = 1 ∨ i = 2 ∨ i = 3 ∨ i = 4 ∨ i = 5 ∨ i = 6 ∨ i = 7 ∨ i = 8 ∨ i = 9 from by omega) with rfl | rfl | rfl | rfl | rfl | rfl | rfl | rfl | rfl | rfl
  ·simp at ho
   subst ho
   clear hall hi
   refine wpOp_hid rfl fun K' HK => ?_
   go_simp
   refine (kinds_any _).mono ?_
   rintro e wn ⟨bn, rfl, hbn, hK, hb⟩
   exact HK.out _ _ ⟨by simp [HJ.out.sz], ⟨bn, _, _, _, _, _, _, _, _, _, _, rfl, HV.out.bx.below hb, fun _ => ⟨rfl, hK⟩, fun h0 => HV.out.k1 (getD_dn (by decide) h0), fun h0 => HV.out.k2 (getD_dn (by decide) h0), fun h => (HV.out.g3 (getD_dn (by decide) h)).below hb, fun h => (HV.out.g4 (getD_dn (by decide) h)).below hb, fun h => (HV.out.g5 (getD_dn (by decide) h)).below hb, fun h0 => HV.out.g6 (getD_dn (by decide) h0), fun h i => (HV.out.g7 (getD_dn (by decide) h) (getD_df (by decide) i)).below hb, fun h => (HV.out.g8 (getD_dn (by decide) h)).below hb, fun h => getD_up hun (HV.out.q8 (getD_dn (by decide) h)), fun h0 => HV.out.g9 (getD_dn (by decide) h0)⟩⟩
  ·simp at ho
   subst ho
   clear hall hi
   refine wpOp_hid rfl fun K' HK => ?_
   go_simp
   cases HV.out
   refine HK.out _ _ ⟨by simp [HJ.out.sz], ?_⟩
   iterate 11 apply Exists.intro
   refine ⟨rfl, ?_⟩
   constructor
   case bx => exact HV.out.bx
   case k1 => exact fun _ => rfl
   case g7 => exact fun h0 h1 => HV.out.g7 (getD_dn (by decide) h0) (getD_df (by decide) h1)
   case q8 => exact fun h => getD_up hun (HV.out.q8 (getD_dn (by decide) h))
   all_goals exact Um (by assumption)
  ·simp at ho
   subst ho
   have h1x : L.getD 1 false = true := hall { on := 1, ground := Ground.data } (by simp) (by decide)
   have H1 := hI h1x
   clear hall hi h1x
   have e0 := HV.out.k1 H1.out
   subst e0
   have hc4 := (fact_cells (HV.out.bx.get 0 rfl)).2.2.2.2.1
   refine wpOp_hid rfl fun K' HK => ?_
   go_simp
   cases HV.out
   refine HK.out _ _ ⟨by simp [HJ.out.sz], ?_⟩
   iterate 11 apply Exists.intro
   refine ⟨rfl, ?_⟩
   constructor
   case bx => exact HV.out.bx
   case k2 => exact fun _ => rfl
   case g7 => exact fun h0 h1 => HV.out.g7 (getD_dn (by decide) h0) (getD_df (by decide) h1)
   case q8 => exact fun h => getD_up hun (HV.out.q8 (getD_dn (by decide) h))
   all_goals exact Um (by assumption)
  ·simp at ho
   subst ho
   have h0x : L.getD 0 false = true := hall { on := 0, ground := Ground.data } (by simp) (by decide)
   have h2x : L.getD 2 false = true := hall { on := 2, ground := Ground.data } (by simp) (by decide)
   have H0 := hI h0x
   have H2 := hI h2x
   clear hall hi h0x h2x
   have e0 := HV.out.k2 H2.out
   subst e0
   have hg0 := HV.out.g0 H0.out
   obtain ⟨hs33, hK⟩ := hg0
   subst hs33
   obtain ⟨nm, hlk, hnm⟩ := hK.look x hw
   refine wpOp_hid rfl fun K' HK => ?_
   go_simp
   cases HV.out
   refine HK.out _ _ ⟨by simp [HJ.out.sz], ?_⟩
   iterate 11 apply Exists.intro
   refine ⟨rfl, ?_⟩
   constructor
   case bx => exact HV.out.bx
   case g3 => exact fun _ => ⟨nm, rfl, hnm⟩
   case g7 => exact fun h0 h1 => HV.out.g7 (getD_dn (by decide) h0) (getD_df (by decide) h1)
   case q8 => exact fun h => getD_up hun (HV.out.q8 (getD_dn (by decide) h))
   all_goals exact Um (by assumption)
  ·simp at ho
   subst ho
   have h3x : L.getD 3 false = true := hall { on := 3, ground := Ground.data } (by simp) (by decide)
   have H3 := hI h3x
   clear hall hi h3x
   refine wpOp_hid rfl fun K' HK => ?_
   go_simp
   cases HV.out
   refine HK.out _ _ ⟨by simp [HJ.out.sz], ?_⟩
   iterate 11 apply Exists.intro
   refine ⟨rfl, ?_⟩
   constructor
   case bx => exact HV.out.bx
   case g4 => exact fun _ => HV.out.g3 H3.out
   case g7 => exact fun h0 h1 => HV.out.g7 (getD_dn (by decide) h0) (getD_df (by decide) h1)
   case q8 => exact fun h => getD_up hun (HV.out.q8 (getD_dn (by decide) h))
   all_goals exact Um (by assumption)
  ·simp at ho
   subst ho
   have h4x : L.getD 4 false = true := hall { on := 4, ground := Ground.data } (by simp) (by decide)
   have H4 := hI h4x
   clear hall hi h4x
   obtain ⟨nm, hs32, hnm⟩ := HV.out.g4 H4.out
   subst hs32
   refine wpOp_hid rfl fun K' HK => ?_
   go_simp
   cases HV.out
   refine HK.out _ _ ⟨by simp [HJ.out.sz], ?_⟩
   iterate 11 apply Exists.intro
   refine ⟨rfl, ?_⟩
   constructor
   case bx => exact HV.out.bx
   case g5 => exact fun _ => ⟨nm, rfl, hnm⟩
   case g7 => exact fun h0 h1 => HV.out.g7 (getD_dn (by decide) h0) (getD_df (by decide) h1)
   case q8 => exact fun h => getD_up hun (HV.out.q8 (getD_dn (by decide) h))
   all_goals exact Um (by assumption)
  ·simp at ho
   subst ho
   have h4x : L.getD 4 false = true := hall { on := 4, ground := Ground.data } (by simp) (by decide)
   have H4 := hI h4x
   clear hall hi h4x
   obtain ⟨nm, hs32, hnm⟩ := HV.out.g4 H4.out
   subst hs32
   refine wpOp_hid rfl fun K' HK => ?_
   go_simp
   cases HV.out
   refine HK.out _ _ ⟨by simp [HJ.out.sz], ?_⟩
   iterate 11 apply Exists.intro
   refine ⟨rfl, ?_⟩
   constructor
   case bx => exact HV.out.bx
   case g6 => exact fun _ => rfl
   case g7 => exact fun h0 h1 => HV.out.g7 (getD_dn (by decide) h0) (getD_df (by decide) h1)
   case q8 => exact fun h => getD_up hun (HV.out.q8 (getD_dn (by decide) h))
   all_goals exact Um (by assumption)
  ·simp at ho
   subst ho
   clear hall hi
   refine wpOp_hid rfl fun K' HK => ?_
   go_simp
   exact HK.out _ _ ⟨by simp [HJ.out.sz], ⟨_, w'.heap.size, _, _, _, _, _, _, _, _, _, rfl, HV.out.bx.below ((Below.refl _ w').alloc (Nat.le_refl _) _), fun h => (HV.out.g0 (getD_dn (by decide) h)).below ((Below.refl _ w').alloc (Nat.le_refl _) _), fun h0 => HV.out.k1 (getD_dn (by decide) h0), fun h0 => HV.out.k2 (getD_dn (by decide) h0), fun h => (HV.out.g3 (getD_dn (by decide) h)).below ((Below.refl _ w').alloc (Nat.le_refl _) _), fun h => (HV.out.g4 (getD_dn (by decide) h)).below ((Below.refl _ w').alloc (Nat.le_refl _) _), fun h => (HV.out.g5 (getD_dn (by decide) h)).below ((Below.refl _ w').alloc (Nat.le_refl _) _), fun h0 => HV.out.g6 (getD_dn (by decide) h0), fun _ _ => ⟨rfl, HV.out.bx.1.size, fun e => by have := HV.out.bx.lt 0 rfl; omega, heap_alloc_new w' _⟩, fun h => (not_on hoff (HV.out.q8 (getD_dn (by decide) h))).elim, fun h => (not_on hoff (HV.out.q8 (getD_dn (by decide) h))).elim, fun h0 => HV.out.g9 (getD_dn (by decide) h0)⟩⟩
  ·simp at ho
   subst ho
   have h7x : L.getD 7 false = true := hall { on := 7, ground := Ground.data } (by simp) (by decide)
   have h5x : L.getD 5 false = true := hall { on := 5, ground := Ground.data } (by simp) (by decide)
   have h0x : L.getD 0 false = true := hall { on := 0, ground := Ground.chain } (by simp) (by decide)
   have H7 := hI h7x
   have H5 := hI h5x
   have H0 := hI h0x
   clear hall hi h7x h5x h0x
   obtain ⟨hs3, hq1, hq2, hqz⟩ := HV.out.g7 H7.out hoff
   subst hs3
   obtain ⟨nm, hs37, hnm⟩ := HV.out.g5 H5.out
   subst hs37
   have hrun := run_store_rowK w' q 17 247 _ (kcells (kword x.kind.toNat) (kclass x.kind.toNat) (fun f => (kfs x.kind.toNat).contains f) (.map nm) (kcode x.kind.toNat)) (by kernel_rfl) hqz rfl rfl (kcells_one _ _ _ _ _)
   have hst := Stp_row hqz (kcells (kword x.kind.toNat) (kclass x.kind.toNat) (fun f => (kfs x.kind.toNat).contains f) (.map nm) (kcode x.kind.toNat))
   refine wpOp_hid rfl fun K' HK => ?_
   refine step_store_runK hrun rfl _ _ rfl rfl rfl ?_
   exact HK.out _ _ ⟨by simp [HJ.out.sz], ⟨_, _, _, _, _, _, _, _, _, _, _, rfl, HV.out.bx.row hq1 (by intro z hz; rw [List.mem_singleton] at hz; subst hz; exact fun e => hq2 e.symm) _, fun h => (HV.out.g0 (getD_dn (by decide) h)).row hst, fun h0 => HV.out.k1 (getD_dn (by decide) h0), fun h0 => HV.out.k2 (getD_dn (by decide) h0), fun h => (HV.out.g3 (getD_dn (by decide) h)).row hst, fun h => (HV.out.g4 (getD_dn (by decide) h)).row hst, fun h => (HV.out.g5 (getD_dn (by decide) h)).row hst, fun h0 => HV.out.g6 (getD_dn (by decide) h0), fun _ h => (not_on h (getD_set_same hun)).elim, fun _ => ⟨rfl, hq1, hq2, nm, setRow_heap w' _ _ _ _ _ hqz, hnm.row hst⟩, fun _ => getD_up hun H7.out, fun h0 => HV.out.g9 (getD_dn (by decide) h0)⟩⟩
  ·simp at ho
   subst ho
   have h6x : L.getD 6 false = true := hall { on := 6, ground := Ground.data } (by simp) (by decide)
   have h8x : L.getD 8 false = true := hall { on := 8, ground := Ground.chain } (by simp) (by decide)
   have H6 := hI h6x
   have H8 := hI h8x
   clear hall hi h6x h8x
   have e0 := HV.out.g6 H6.out
   subst e0
   refine wpOp_hid rfl fun K' HK => ?_
   go_simp
   cases HV.out
   refine HK.out _ _ ⟨by simp [HJ.out.sz], ?_⟩
   iterate 11 apply Exists.intro
   refine ⟨rfl, ?_⟩
   constructor
   case bx => exact HV.out.bx
   case g7 => exact fun h0 h1 => HV.out.g7 (getD_dn (by decide) h0) (getD_df (by decide) h1)
   case q8 => exact fun h => getD_up hun (HV.out.q8 (getD_dn (by decide) h))
   case g9 => exact fun _ => rfl
   all_goals exact Um (by assumption)
end Go.Proofs.YtbkmhmaldljgmaaGreatDoor
