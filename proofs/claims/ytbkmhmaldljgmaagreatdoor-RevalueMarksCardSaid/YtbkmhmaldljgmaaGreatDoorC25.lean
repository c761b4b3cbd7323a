/-
  revalue.Effects: one round's effect (a region by marks), begun.
-/
import Derived.Test.YtbkmhmaldljgmaaGreatDoorC16
import Derived.Test.YtbkmhmaldljgmaaGreatDoorC22
import Derived.Test.YtbkmhmaldljgmaaGreatDoorC24
import Derived.Deep.MidRow
set_option linter.unusedVariables false
set_option linter.unusedSimpArgs false
set_option maxHeartbeats 16000000
set_option maxRecDepth 100000
namespace Go.Proofs.YtbkmhmaldljgmaaGreatDoor
open Go.RowKit Tr Go.Shelf
noncomputable def efkC (kind d : Int) (i : Inst) (B : Nat) : Array Value := #[.int .i64 kind, .int .i64 d, .string (causeB d i.id), .string i.id, .string ⟨#[]⟩, .string i.cur, .slice (some ⟨B, 0, none⟩) 1 1]
noncomputable def cE (t : Bool) (kind d : Int) (i : Inst) (B : Nat) : Array Value := if t = true then efkC kind d i B else effZero
def isS (ch : ByteArray) : Bool := !decide (ch = ⟨#[]⟩)
def TmRow (n₀ : Nat) (ch : ByteArray) (B : Nat) (W : World) : Prop := isS ch = true → n₀ ≤ B ∧ W.heap[B]? = some (.cells #[.string ⟨#[97, 109, 111, 117, 110, 116]⟩, .string ch] 82 (0, 0))
theorem TmRow.below {n₀ : Nat} {ch : ByteArray} {B : Nat} {W W' : World} (h : TmRow n₀ ch B W) (hb : Below W.heap.size W W') : TmRow n₀ ch B W' := fun ht =>
 ⟨(h ht).1, (hb.block _ (Array.getElem?_eq_some_iff.1 (h ht).2).1).trans (h ht).2⟩
def EffV (n₀ : Nat) (kind d : Int) (i : Inst) (ch : ByteArray) (v : Value) (W : World) : Prop := ∃ B, v = .tuple #[.agg (cE (isS ch) kind d i B), .bool (isS ch), .int .i64 0] ∧ TmRow n₀ ch B W
theorem aEff_any (kind d : Int) (hk : kind = 17 ∨ kind = 18 ∨ kind = 19) (hd : okDay d) (i : Inst) (hi : i.small) (hok : i.ok) (ch : ByteArray) (hc : Can ch) (hz : ch.size ≤ 1000) (n₀ : Nat) (w : World) (hn : n₀ ≤ w.heap.size) (ht : Tabs w) :
 Calls Tryz.prog 25 #[.int .i64 kind, .int .i64 d, i.enc, .string ch] w fun e w' => ∃ v, e = .returned v ∧ EffV n₀ kind d i ch v w' ∧ Below w.heap.size w w' := by
 by_cases he : ch = ⟨#[]⟩
 ·subst he
  refine (Effect_none kind hk d hd i hi hok w ht).mono ?_
  rintro e w' ⟨rfl, hb⟩
  exact ⟨_, rfl, ⟨0, by simp [cE, isS], fun h => by simp [isS] at h⟩, hb⟩
 ·have hs : isS ch = true := by unfold isS; rw [decide_eq_false he]; rfl
  refine (Effect_some kind hk d hd i hi hok ch hc hz he w ht).mono ?_
  rintro e w' ⟨B, rfl, hr, hB, hb⟩
  exact ⟨_, rfl, ⟨B, by simp [cE, hs, efkC], fun _ => ⟨Nat.le_trans hn hB, hr⟩⟩, hb⟩
section
variable {P : Program} {ops : Array Oper} {o : Oper} {a : Act} {K : Act → World → Prop} {Q : Exit → Act → World → Prop} {E : Prop} {w w' : World}
theorem op_store {t : TypeId} {pv xv : Value} (hr : (Instr.storeAt t pv xv).run P w = .ok () w') (p x : Operand)
 (ho : o.op = .store t p x) (hp : a.eval p = pv) (hx : a.eval x = xv) (h : K (a.put o.dst undef) w') : Oper.wp P o a w K Q := by
 unfold Oper.wp execOp
 simp only [ho, hp, hx, Sem.run_bind, Sem.run_pure, Result.andThen_ok, hr]
 exact h
theorem mk_load {ty : TypeId} {x : Operand} (hw : Region.wanted o (yielded ops a.tmps) = true) (ho : o.op = .load ty x) (b off : Nat) (hx : a.eval x = .pointer (some ⟨b, off, none⟩)) (cs : List Value) (d : TypeDesc) (hc : w.rangeAt b off cs)
 (hu : P.underlying ty = some d) (hd : d.isRow = true) (hi : (P.info? ty).map (·.size) = some cs.length) (h : K (a.put o.dst (.agg cs.toArray)) w) :
 if Region.wanted o (yielded ops a.tmps) = true then Oper.wp P o a w K Q else E := by
 rw [if_pos hw]
 exact wp_load_mid ty x ho b off hx cs d hc hu hd hi h
end
def newE (n₀ : Nat) (v : Value) (W : World) : Prop := ∃ q, v = .pointer (some ⟨q, 0, none⟩) ∧ n₀ ≤ q ∧ ∃ cs, W.heap[q]? = some (.cells cs 47 (0, 0)) ∧ cs.size = 7
def fulE (n₀ : Nat) (kind d : Int) (i : Inst) (ch : ByteArray) (v : Value) (W : World) : Prop := ∃ q B, v = .pointer (some ⟨q, 0, none⟩) ∧ n₀ ≤ q ∧ W.heap[q]? = some (.cells (cE (isS ch) kind d i B) 47 (0, 0)) ∧ TmRow n₀ ch B W
def aggE (n₀ : Nat) (kind d : Int) (i : Inst) (ch : ByteArray) (v : Value) (W : World) : Prop := ∃ B, v = .agg (cE (isS ch) kind d i B) ∧ TmRow n₀ ch B W
section
variable {n₀ : Nat} {kind d : Int} {i : Inst} {ch : ByteArray} {v : Value} {W W' : World}
theorem EffV.below (h : EffV n₀ kind d i ch v W) (hb : Below W.heap.size W W') : EffV n₀ kind d i ch v W' := by
 obtain ⟨B, e, h⟩ := h; exact ⟨B, e, h.below hb⟩
theorem aggE.below (h : aggE n₀ kind d i ch v W) (hb : Below W.heap.size W W') : aggE n₀ kind d i ch v W' := by
 obtain ⟨B, e, h⟩ := h; exact ⟨B, e, h.below hb⟩
theorem newE.below (h : newE n₀ v W) (hb : Below W.heap.size W W') : newE n₀ v W' := by
 obtain ⟨q, e, hq, cs, hc, hz⟩ := h; exact ⟨q, e, hq, cs, (hb.block _ (Array.getElem?_eq_some_iff.1 hc).1).trans hc, hz⟩
theorem fulE.below (h : fulE n₀ kind d i ch v W) (hb : Below W.heap.size W W') : fulE n₀ kind d i ch v W' := by
 obtain ⟨q, B, e, hq, hc, ht⟩ := h; exact ⟨q, B, e, hq, (hb.block _ (Array.getElem?_eq_some_iff.1 hc).1).trans hc, ht.below hb⟩
theorem TmRow.put {B q : Nat} (h : TmRow n₀ ch B W) {cs : Array Value} (hq : W.heap[q]? = some (.cells cs 47 (0, 0))) (vals : Array Value) : TmRow n₀ ch B (W.setRow q vals) := fun ht =>
 ⟨(h ht).1, by
   rw [setRow_other _ q B _ (by rintro rfl; have h2 := (h ht).2; rw [hq] at h2; simp at h2)]; exact (h ht).2⟩
theorem EffV.put (h : EffV n₀ kind d i ch v W) {q : Nat} {cs : Array Value} (hq : W.heap[q]? = some (.cells cs 47 (0, 0))) (vals : Array Value) : EffV n₀ kind d i ch v (W.setRow q vals) := by
 obtain ⟨B, e, h⟩ := h; exact ⟨B, e, h.put hq vals⟩
theorem aggE.put (h : aggE n₀ kind d i ch v W) {q : Nat} {cs : Array Value} (hq : W.heap[q]? = some (.cells cs 47 (0, 0))) (vals : Array Value) : aggE n₀ kind d i ch v (W.setRow q vals) := by
 obtain ⟨B, e, h⟩ := h; exact ⟨B, e, h.put hq vals⟩
theorem newE.put {q : Nat} (h : newE n₀ v W) {cs : Array Value} (hq : W.heap[q]? = some (.cells cs 47 (0, 0))) {vals : Array Value} (hv : vals.size = 7) : newE n₀ v (W.setRow q vals) := by
 obtain ⟨p, e, hp, cp, hc, hz⟩ := h
 by_cases h : p = q
 ·subst h; exact ⟨p, e, hp, vals, setRow_heap W _ _ _ _ _ hq, hv⟩
 ·exact ⟨p, e, hp, cp, by rw [setRow_other _ q p _ h]; exact hc, hz⟩
end
theorem cE_size (t : Bool) (kind d : Int) (i : Inst) (B : Nat) : (cE t kind d i B).size = 7 := by unfold cE; cases t <;> rfl
theorem cE_one (t : Bool) (kind d : Int) (i : Inst) (B : Nat) : ∀ u ∈ (cE t kind d i B).toList, u.oneCell' = true := by
 intro u hu
 cases t with
 | true =>
   have h : u ∈ (efkC kind d i B).toList := hu
   simp [efkC] at h
   rcases h with rfl | rfl | rfl | rfl | rfl | rfl | rfl <;> rfl
 | false =>
   have h : u ∈ effZero.toList := hu
   simp at h
   rcases h with rfl | rfl | rfl | rfl | rfl | rfl <;> rfl
end Go.Proofs.YtbkmhmaldljgmaaGreatDoor
