/-
  Lots and positions compared as the machine does it; slices.Equal, lot.Same, trancheref19.Same, SamePositions. (Printed by gen_eq1.py.)
-/
import Derived.Test.YtdnmpgoigagjmaaGreatDoorN23
import Derived.Laws.StructEq
import Derived.BigQuiet
set_option linter.unusedVariables false
set_option linter.unusedSimpArgs false
namespace Go.Proofs.YtdnmpgoigagjmaaGreatDoor
open Go.RowKit Tr Go.Shelf
open Classical in
noncomputable def sameB {α : Type} (a b : α) : Bool := decide (a = b)
theorem sameB_yes {α : Type} {a b : α} (h : a = b) : sameB a b = true := by unfold sameB; simp [h]
theorem sameB_no {α : Type} {a b : α} (h : a ≠ b) : sameB a b = false := by unfold sameB; simp [h]
theorem tl_iff (a b : ByteArray) : (a.toList = b.toList) ↔ (a = b) := by
 have h := str_eq a b
 constructor
 ·intro e
  rw [e] at h
  simpa using h
 ·intro e; rw [e]
theorem take_same {α : Type} {l m : List α} {k : Nat} {x y : α} (h : l.take k = m.take k) (hx : l[k]? = some x) (hy : m[k]? = some y) (e : x = y) : l.take (k + 1) = m.take (k + 1) := by
 rw [take_snoc hx, take_snoc hy, h, e]
theorem ne_at {α : Type} {l m : List α} {k : Nat} {x y : α} (hx : l[k]? = some x) (hy : m[k]? = some y) (e : x ≠ y) : l ≠ m := by
 intro h
 rw [h, hy] at hx
 exact e (Option.some.inj hx).symm
theorem eqGuard_lot (op : BinOp) (x y : Operand) (xs ys : Array Value) (w : World) : (eqGuard op 49 x y (.agg xs) (.agg ys)).run Tryz.prog w = .ok () w := run_eqGuard_agg w op _ x y xs ys (by kernel_rfl)
attribute [local go_sem] eqGuard_lot
theorem eqGuard_pos (op : BinOp) (x y : Operand) (xs ys : Array Value) (w : World) : (eqGuard op 80 x y (.agg xs) (.agg ys)).run Tryz.prog w = .ok () w := run_eqGuard_agg w op _ x y xs ys (by kernel_rfl)
attribute [local go_sem] eqGuard_pos
def RdB' (n₀ : Nat) (w : World) (A : Option Addr) (ls : List Lot) : Prop :=
 ls ≠ [] → ∃ ad : Addr, A = some ad ∧ ad.block < n₀ ∧ ∀ (j : Nat) (l : Lot), ls[j]? = some l → LotAt w (ad.add (j * 7)) l
theorem RdL.rdb' {w : World} {A : Option Addr} {ls : List Lot} (h : RdL w A ls) : RdB' w.heap.size w A ls := h
theorem RdB.rdb' {n₀ : Nat} {w : World} {A : Option Addr} {ls : List SLot} (h : RdB n₀ w A ls) : RdB' n₀ w A (ls.map Subtype.val) := by
 intro hl
 obtain ⟨ad, h1, h2, h3⟩ := h (by intro e; rw [e] at hl; exact hl rfl)
 refine ⟨ad, h1, h2, fun j l hj => ?_⟩
 rw [List.getElem?_map] at hj
 obtain ⟨x, hx, rfl⟩ := Option.map_eq_some_iff.1 hj
 exact h3 j x hx
end Go.Proofs.YtdnmpgoigagjmaaGreatDoor
