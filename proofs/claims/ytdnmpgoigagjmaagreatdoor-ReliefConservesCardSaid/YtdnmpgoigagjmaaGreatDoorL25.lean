/-
  Lots and positions compared as the machine does it; slices.Equal, lot.Same, trancheref19.Same, SamePositions. (Printed by gen_eq1.py.)
-/
import Derived.Test.YtdnmpgoigagjmaaGreatDoorL24
import Derived.Laws.StructEq
import Derived.BigQuiet
set_option linter.unusedVariables false
set_option linter.unusedSimpArgs false
set_option maxHeartbeats 16000000
set_option maxRecDepth 100000
namespace Go.Proofs.YtdnmpgoigagjmaaGreatDoor
open Go.RowKit Tr Go.Shelf
open Classical in
noncomputable def sameB {α : Type} (a b : α) : Bool := decide (a = b)
theorem sameB_yes {α : Type} {a b : α} (h : a = b) : sameB a b = true := by unfold sameB; simp [h]
theorem sameB_no {α : Type} {a b : α} (h : a ≠ b) : sameB a b = false := by unfold sameB; simp [h]
theorem tl_iff (a b : ByteArray) : (a.toList = b.toList) ↔ (a = b) := by
 have h := str_eq a b
 constructor
 ·intro e
  rw [e] at h
  simpa using h
 ·intro e; rw [e]
theorem take_same {α : Type} {l m : List α} {k : Nat} {x y : α} (h : l.take k = m.take k) (hx : l[k]? = some x) (hy : m[k]? = some y) (e : x = y) : l.take (k + 1) = m.take (k + 1) := by
 rw [take_snoc hx, take_snoc hy, h, e]
theorem ne_at {α : Type} {l m : List α} {k : Nat} {x y : α} (hx : l[k]? = some x) (hy : m[k]? = some y) (e : x ≠ y) : l ≠ m := by
 intro h
 rw [h, hy] at hx
 exact e (Option.some.inj hx).symm
theorem lot_iff (x y : Lot) : x = y ↔ x.id = y.id ∧ x.inst = y.inst ∧ x.acq = y.acq ∧ x.opn = y.opn ∧ x.qty = y.qty ∧ x.cost = y.cost ∧ x.used = y.used := by cases x; cases y; simp
theorem eqGuard_lot (op : BinOp) (x y : Operand) (xs ys : Array Value) (w : World) : (eqGuard op 49 x y (.agg xs) (.agg ys)).run Tryz.prog w = .ok () w := run_eqGuard_agg w op _ x y xs ys (by kernel_rfl)
attribute [local go_sem] eqGuard_lot
theorem run_neq_lot (x y : Lot) (w : World) : (binOp .neq 49 (.agg #[.string x.id, .string x.inst, .int .i64 x.acq, .int .i64 x.opn, .string x.qty, .string x.cost, .string x.used]) (.agg #[.string y.id, .string y.inst, .int .i64 y.acq, .int .i64 y.opn, .string y.qty, .string y.cost, .string y.used])).run Tryz.prog w = .ok (.bool (!sameB x y)) w := by
 have hS : Tryz.prog.underlying 49 = some (.struct (Tryz.prog.fieldsOf 49)) := by kernel_rfl
 have hp : Tryz.prog.stoodInHeld 49 = false := by kernel_rfl
 have u0 := Tryz.underlying9
 have a0 := Tryz.isAgg9
 have z0 := Tryz.sizeOf9
 have u1 := Tryz.underlying47
 have a1 := Tryz.isAgg47
 have z1 := Tryz.sizeOf47
 have u2 := Tryz.underlying25
 have a2 := Tryz.isAgg25
 have z2 := Tryz.sizeOf25
 rw [run_neq_struct, show (10000 : Nat) = 9999 + 1 from rfl, run_equalIn_agg w 9999 _ _ _ hS hp]
 simp only [Program.fieldsOf, Tryz.underlying49]
 go_simp
 by_cases h0 : x.id = y.id
 case neg => rw [sameB_no (fun e => h0 (by rw [e]))]; simp [tl_iff, h0]
 by_cases h1 : x.inst = y.inst
 case neg => rw [sameB_no (fun e => h1 (by rw [e]))]; simp [tl_iff, h0, h1]
 by_cases h2 : x.acq = y.acq
 case neg => rw [sameB_no (fun e => h2 (by rw [e]))]; simp [tl_iff, h0, h1, h2]
 by_cases h3 : x.opn = y.opn
 case neg => rw [sameB_no (fun e => h3 (by rw [e]))]; simp [tl_iff, h0, h1, h2, h3]
 by_cases h4 : x.qty = y.qty
 case neg => rw [sameB_no (fun e => h4 (by rw [e]))]; simp [tl_iff, h0, h1, h2, h3, h4]
 by_cases h5 : x.cost = y.cost
 case neg => rw [sameB_no (fun e => h5 (by rw [e]))]; simp [tl_iff, h0, h1, h2, h3, h4, h5]
 by_cases h6 : x.used = y.used
 case neg => rw [sameB_no (fun e => h6 (by rw [e]))]; simp [tl_iff, h0, h1, h2, h3, h4, h5, h6]
 rw [sameB_yes ((lot_iff x y).2 ⟨h0, h1, h2, h3, h4, h5, h6⟩)]; simp [tl_iff, h0, h1, h2, h3, h4, h5, h6]
theorem eqGuard_pos (op : BinOp) (x y : Operand) (xs ys : Array Value) (w : World) : (eqGuard op 80 x y (.agg xs) (.agg ys)).run Tryz.prog w = .ok () w := run_eqGuard_agg w op _ x y xs ys (by kernel_rfl)
attribute [local go_sem] eqGuard_pos
def RdB' (n₀ : Nat) (w : World) (A : Option Addr) (ls : List Lot) : Prop :=
 ls ≠ [] → ∃ ad : Addr, A = some ad ∧ ad.block < n₀ ∧ ∀ (j : Nat) (l : Lot), ls[j]? = some l → LotAt w (ad.add (j * 7)) l
theorem RdL.rdb' {w : World} {A : Option Addr} {ls : List Lot} (h : RdL w A ls) : RdB' w.heap.size w A ls := h
theorem RdB.rdb' {n₀ : Nat} {w : World} {A : Option Addr} {ls : List SLot} (h : RdB n₀ w A ls) : RdB' n₀ w A (ls.map Subtype.val) := by
 intro hl
 obtain ⟨ad, h1, h2, h3⟩ := h (by intro e; rw [e] at hl; exact hl rfl)
 refine ⟨ad, h1, h2, fun j l hj => ?_⟩
 rw [List.getElem?_map] at hj
 obtain ⟨x, hx, rfl⟩ := Option.map_eq_some_iff.1 hj
 exact h3 j x hx
theorem eqLots_any (A1 A2 : Option Addr) (l1 l2 : List Lot) (c1 c2 : Nat) (h1 : l1.length ≤ 1000000) (h2 : l2.length ≤ 1000000) (n1 n2 : Nat) (w : World) (r1 : RdB' n1 w A1 l1) (r2 : RdB' n2 w A2 l2) :
 Calls Tryz.prog 38 #[.slice A1 l1.length c1, .slice A2 l2.length c2] w fun e w' => e = .returned (.bool (sameB l1 l2)) ∧ ∃ m, w' = w.drewN m := by
 have R1 := hI r1
 have R2 := hI r2
 clear r1 r2
 by_cases hl : l1.length = l2.length
 case neg =>
  have tn : ((l1.length : Int) != (l2.length : Int)) = true := by rw [bne, beq_eq_false_iff_ne.2 (by omega)]; rfl
  have tn' : (l1.length != l2.length) = true := by rw [bne, beq_eq_false_iff_ne.2 hl]; rfl
  have te : ((l1.length : Int) == (l2.length : Int)) = false := beq_eq_false_iff_ne.2 (by omega)
  have te' : (l1.length == l2.length) = false := beq_eq_false_iff_ne.2 hl
  have HS := hI (sameB_no (fun e => hl (by rw [e])) : sameB l1 l2 = false)
  clear hl
  go_enter Tryz.func38, Tryz.ntmps38
  go_wp2_with fail
  go_ret
  exact ⟨by rw [HS.out]; rfl, 0, rfl⟩
 obtain ⟨n, hn⟩ : ∃ n, l1.length = n := ⟨_, rfl⟩
 rw [← hl, hn]
 have tn : ((n : Int) != (n : Int)) = false := by simp
 have HL : Hid (l1.length = n ∧ l2.length = n) := ⟨hn, hl ▸ hn⟩
 have hnn : n ≤ 1000000 := by omega
 clear hl hn h1 h2
 go_enter Tryz.func38, Tryz.ntmps38
 go_wp2_with fail
 go_loopw [5, 13] (fun _ v wr => ∃ k m : Nat, v = .int .i64 (k : Int) ∧ k ≤ n ∧ wr = w.drewN m ∧ l1.take k = l2.take k) (fun _ v _ => n - (intOf v).toNat)
 case atStart => exact ⟨0, 0, rfl, by omega, rfl, rfl⟩
 case round =>
  obtain ⟨k, m, rfl, hk, rfl, htk⟩ := hrel
  have HTK := hI htk
  clear tn htk
  rcases Nat.lt_or_ge k n with hlt | hge
  ·obtain ⟨x, hx⟩ : ∃ x, l1[k]? = some x := ⟨_, List.getElem?_eq_getElem (by rw [HL.out.1]; exact hlt)⟩
   obtain ⟨y, hy⟩ : ∃ y, l2[k]? = some y := ⟨_, List.getElem?_eq_getElem (by rw [HL.out.2]; exact hlt)⟩
   obtain ⟨a1, rfl, _, hc1⟩ := R1.out (by intro e; rw [e] at hx; cases hx)
   obtain ⟨a2, rfl, _, hc2⟩ := R2.out (by intro e; rw [e] at hy; cases hy)
   have p := hc1 k x hx
   have q := hc2 k y hy
   obtain ⟨p0, p1, p2, p3, p4, p5, p6⟩ := p
   obtain ⟨q0, q1, q2, q3, q4, q5, q6⟩ := q
   have hcx : decide ((k : Int) < (n : Int)) = true := by simp; omega
   have hb : (k : Int) < (n : Int) := by omega
   have hne := run_neq_lot x y
   by_cases he : x = y
   ·rw [sameB_yes he] at hne
    have HST := hI (take_same HTK.out hx hy he)
    clear hc1 hc2 hx hy he
    go_wp2_with fail
    go_quiet (fail)
    go_wp2_with fail
    go_roundw
    case rel => exact ⟨k + 1, m + nq, by go_num, by omega, by first | rfl | rw [World.drewN_drewN], HST.out⟩
    case measure => simp [intOf]; omega
   ·rw [sameB_no he] at hne
    have HST := hI (sameB_no (ne_at hx hy he))
    clear hc1 hc2 hx hy he
    go_wp2_with fail
    go_quiet (fail)
    go_wp2_with fail
    go_ret
    exact ⟨by rw [HST.out]; rfl, _, by first | rfl | rw [World.drewN_drewN]⟩
  ·have hcx : decide ((k : Int) < (n : Int)) = false := by simp; omega
   have HST : Hid (sameB l1 l2 = true) := sameB_yes (by have := HTK.out; rwa [List.take_of_length_le (by rw [HL.out.1]; exact hge), List.take_of_length_le (by rw [HL.out.2]; exact hge)] at this)
   go_wp2_with fail
   go_ret
   exact ⟨by rw [HST.out]; rfl, _, rfl⟩
end Go.Proofs.YtdnmpgoigagjmaaGreatDoor
