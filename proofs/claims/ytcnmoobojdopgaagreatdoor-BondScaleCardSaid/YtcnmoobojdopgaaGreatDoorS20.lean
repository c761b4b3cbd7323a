/-
  The walk of instrument.Check on what is valid. (Printed by gen_ins7.py.)
  instrument.Check on every valid instrument.
  The walk of lot.isId on the id of a lot.
  The walk of lot.Check on a valid lot. (Printed by gen_lot2.py.)
  The walk of trancheref10.Check: the words (numbers of up to 16 bytes). (Printed by gen_ref17.py.)
-/
import Derived.Test.YtcnmoobojdopgaaGreatDoorS19
import Derived.Deep.DeepCutAuto
import Derived.Deep.RegionWith
import Derived.Test.YtcnmoobojdopgaaGreatDoorS18
set_option linter.unusedVariables false
set_option linter.unusedSimpArgs false
set_option maxHeartbeats 16000000
set_option maxRecDepth 100000
namespace Go.Proofs.YtcnmoobojdopgaaGreatDoor
open Go.RowKit Tr Go.Shelf
def RuleBox (W : World) (B : Nat) (ends : Bool) (f : Nat) : Prop := W.heap[B]? = some (.cells #[.bool ends, .func (.func f) #[] #[]] 179 (0, 0))
def InstBox (W : World) (B : Nat) (i : Inst) : Prop := W.heap[B]? = some (.cells i.cells 27 (0, 0))
theorem InstBox.below {W W' : World} {B : Nat} {i : Inst} (h : InstBox W B i) (hb : Below W.heap.size W W') : InstBox W' B i := (hb.block B (Array.getElem?_eq_some_iff.1 h).1).trans h
theorem RuleBox.below {W W' : World} {B : Nat} {e : Bool} {f : Nat} (h : RuleBox W B e f) (hb : Below W.heap.size W W') : RuleBox W' B e f := (hb.block B (Array.getElem?_eq_some_iff.1 h).1).trans h
abbrev nsCells (i : Inst) : Array Value := #[.string i.fn, .string i.fd, .string i.cn, .string i.cd, .string i.sn, .string i.sd]
def NsBox (W : World) (B : Nat) (i : Inst) : Prop := W.heap[B]? = some (.cells (nsCells i) 25 (0, 0))
theorem NsBox.below {W W' : World} {B : Nat} {i : Inst} (h : NsBox W B i) (hb : Below W.heap.size W W') : NsBox W' B i := (hb.block B (Array.getElem?_eq_some_iff.1 h).1).trans h
structure LoopS (w : World) (S B : Nat) (ends : Bool) (f : Nat) (i : Inst) (W : World) : Prop where
 ns : NsBox W S i
 rb : RuleBox W B ends f
 ib : InstBox W w.heap.size i
 be : Below w.heap.size w W
theorem LoopS.below {w : World} {S B : Nat} {ends : Bool} {f : Nat} {i : Inst} {W W' : World} (h : LoopS w S B ends f i W) (hb : Below W.heap.size W W') : LoopS w S B ends f i W' :=
 ⟨h.ns.below hb, h.rb.below hb, h.ib.below hb, h.be.trans (hb.mono h.be.size)⟩
structure Inst.ok (i : Inst) : Prop where
 id : nameOk i.id = true
 kind : 1 ≤ i.kind ∧ i.kind ≤ 5
 cur : codeOk i.cur = true
 places : 0 ≤ i.places ∧ i.places ≤ 12
 issued : okDay i.issued
 matures : (i.matures = 0 ∧ i.kind ≠ 2 ∧ i.kind ≠ 5) ∨ (i.matures ≠ 0 ∧ okDay i.matures ∧ i.issued < i.matures)
 n1 : numchk i.fn i.fd = 0
 n2 : numchk i.cn i.cd = 0
 n3 : numchk i.sn i.sd = 0
 plain : i.kind ≠ 2 → i.kind ≠ 5 → plainOk i
 bond : i.kind = 2 → bondOk i
 fwd : i.kind = 5 → fwdOk i
theorem ix_rule (k : Int) (ends : Bool) (f : Nat) (h : ∀ w, Sem.run Tryz.prog (Instr.index 180 (Value.agg ruleCells) (.int .i64 k)) w = .ok (.agg #[.bool ends, .func (.func f) #[] #[]]) w) (i : Inst) (hi : i.kind = k) :
 ∀ w, Sem.run Tryz.prog (Instr.index 180 (Value.agg ruleCells) (.int .i64 i.kind)) w = .ok (.agg #[.bool ends, .func (.func f) #[] #[]]) w := by
 subst hi; exact h
def numB (t : List UInt8) : Bool := decide (t.length ≤ 4) && (match Lib.atoi t with | some v => decide (1 ≤ v) && decide (v ≤ 9999) && (Lib.itoa v == t) | none => false)
def idB (s : ByteArray) : Bool := numB (Lib.cut s.data.toList [47]).2.1 && nameOk (bs (Lib.cut s.data.toList [47]).1)
structure Lot where
 id : ByteArray
 inst : ByteArray
 acq : Int
 opn : Int
 qty : ByteArray
 cost : ByteArray
 used : ByteArray
abbrev Lot.cells (l : Lot) : Array Value := #[.string l.id, .string l.inst, .int .i64 l.acq, .int .i64 l.opn, .string l.qty, .string l.cost, .string l.used]
def Lot.sized (l : Lot) : Prop := l.id.size ≤ 1000 ∧ l.inst.size ≤ 1000 ∧ l.qty.size ≤ 1000 ∧ l.cost.size ≤ 1000 ∧ l.used.size ≤ 1000
def LotBox (W : World) (B : Nat) (l : Lot) : Prop := W.heap[B]? = some (.cells l.cells 63 (0, 0))
theorem LotBox.below {W W' : World} {B : Nat} {l : Lot} (h : LotBox W B l) (hb : Below W.heap.size W W') : LotBox W' B l := (hb.block B (Array.getElem?_eq_some_iff.1 h).1).trans h
theorem LotBox.lt {W : World} {B : Nat} {l : Lot} (h : LotBox W B l) : B < W.heap.size := (Array.getElem?_eq_some_iff.1 h).1
structure Lot.ok (l : Lot) : Prop where
 id : idB l.id = true
 inst : nameOk l.inst = true
 acq : okDay l.acq
 opn : okDay l.opn
 ord : l.acq ≤ l.opn
 cq : Can l.qty
 cc : Can l.cost
 cu : Can l.used
 pq : 0 < vl l.qty
 pc : 0 ≤ vl l.cost
 us : l.used = ⟨#[]⟩ ∨ l.used = l.qty
def u3Cells (l : Lot) : Array Value := #[.string l.qty, .string l.cost, .string l.used]
structure LLoop (w : World) (S : Nat) (l : Lot) (W : World) : Prop where
 ns : W.heap[S]? = some (.cells (u3Cells l) 23 (0, 0))
 ib : LotBox W w.heap.size l
 be : Below w.heap.size w W
theorem LLoop.below {w : World} {S : Nat} {l : Lot} {W W' : World} (h : LLoop w S l W) (hb : Below W.heap.size W W') : LLoop w S l W' :=
 ⟨(hb.block S (Array.getElem?_eq_some_iff.1 h.ns).1).trans h.ns, h.ib.below hb, h.be.trans (hb.mono h.be.size)⟩
def Inst.tiny (i : Inst) : Prop := i.id.size ≤ 40 ∧ i.cur.size ≤ 40 ∧ i.other.size ≤ 40 ∧ i.fn.size ≤ 13 ∧ i.fd.size ≤ 13 ∧ i.cn.size ≤ 13 ∧ i.cd.size ≤ 13 ∧ i.sn.size ≤ 13 ∧ i.sd.size ≤ 13
def ChkPost (w : World) (P : Prop) (e : Ending) (w' : World) : Prop := ∃ n : Int, e = .returned (.int .i64 n) ∧ (n = 0 ↔ P) ∧ Below w.heap.size w w'
theorem ChkPost.bad {w w' : World} {P : Prop} {n : Int} (hn : n ≠ 0) (hP : ¬ P) (hb : Below w.heap.size w w') : ChkPost w P (.returned (.int .i64 n)) w' := ⟨n, rfl, ⟨fun h => absurd h hn, fun h => absurd h hP⟩, hb⟩
theorem ChkPost.good {w w' : World} {P : Prop} (hP : P) (hb : Below w.heap.size w w') : ChkPost w P (.returned (.int .i64 0)) w' := ⟨0, rfl, ⟨fun _ => hP, fun _ => rfl⟩, hb⟩
theorem numchk_zero {n d : ByteArray} (ha : n.size ≤ 16) (hb : d.size ≤ 16) : numchk n d = 0 ↔ CanQ n d := by
 unfold numchk
 have h1 := ndig_le n
 have h2 := ndig_le d
 by_cases h : CanQ n d
 ·rw [if_neg (by simpa using h), if_neg (by omega)]; simp [h]
 ·rw [if_pos h]; simp [h]
theorem rNumber_any (n d : ByteArray) (ha : n.size ≤ 16) (hb : d.size ≤ 16) (w : World) :
 Calls Tryz.prog 96 #[.agg #[.string n, .string d]] w (ChkPost w (CanQ n d)) := by
 by_cases h : CanQ n d
 ·exact (rNumber_yes n d ha hb h w).mono (fun e w' ⟨h1, h2⟩ => by subst h1; exact ChkPost.good h h2)
 ·exact (rNumber_no n d ha hb h w).mono (fun e w' ⟨h1, h2⟩ => by subst h1; exact ChkPost.bad (by decide) h h2)
def nAt (i : Inst) : Nat → ByteArray | 0 => i.fn | 1 => i.cn | _ => i.sn
def dAt (i : Inst) : Nat → ByteArray | 0 => i.fd | 1 => i.cd | _ => i.sd
abbrev numCells (i : Inst) : Array Value := #[.string i.fn, .string i.fd, .string i.cn, .string i.cd, .string i.sn, .string i.sd]
structure RC (w : World) (i : Inst) (b : Nat) (W : World) : Prop where
 k0 : W.heap[w.heap.size]? = some (.cells i.cells 27 (0, 0))
 k1 : W.heap[b]? = some (.cells (numCells i) 25 (0, 0))
 bel : Below w.heap.size w W
theorem RC.below {w : World} {i : Inst} {b : Nat} {W W' : World} (h : RC w i b W) (hb : Below W.heap.size W W') : RC w i b W' :=
 ⟨(hb.block _ (Array.getElem?_eq_some_iff.1 h.k0).1).trans h.k0, (hb.block _ (Array.getElem?_eq_some_iff.1 h.k1).1).trans h.k1, h.bel.trans (hb.mono h.bel.size)⟩
structure RZ (w : World) (i : Inst) (zb : Nat) (W : World) : Prop where
 k0 : W.heap[w.heap.size]? = some (.cells i.cells 27 (0, 0))
 kz : W.heap[zb]? = some (.cells #[.string ⟨#[]⟩, .string ⟨#[]⟩] 25 (0, 0))
 bel : Below w.heap.size w W
theorem RZ.below {w : World} {i : Inst} {b : Nat} {W W' : World} (h : RZ w i b W) (hb : Below W.heap.size W W') : RZ w i b W' :=
 ⟨(hb.block _ (Array.getElem?_eq_some_iff.1 h.k0).1).trans h.k0, (hb.block _ (Array.getElem?_eq_some_iff.1 h.kz).1).trans h.kz, h.bel.trans (hb.mono h.bel.size)⟩
theorem canQ_zero {n d : ByteArray} (h : CanQ n d) : (vl n = 0 ↔ n = ⟨#[]⟩) ∧ (n = ⟨#[]⟩ → d = ⟨#[]⟩) := by
 have h0 : vl n = 0 → fv n d = 0 := by
  intro hv
  rw [h.1, vl_I] at hv
  exact Rat.num_eq_zero.1 hv
 have h1 : n = ⟨#[]⟩ → vl n = 0 := by intro e; rw [e, zero_eq, vl_I]
 refine ⟨⟨fun hv => ?_, h1⟩, fun e => ?_⟩
 ·rw [h.1, h0 hv]; rfl
 ·rw [h.2, h0 (h1 e)]; rfl
theorem ne_nil {s : ByteArray} (h : s ≠ ⟨#[]⟩) : (s.toList == []) = false := by rw [str_empty]; exact decide_eq_false h
end Go.Proofs.YtcnmoobojdopgaaGreatDoor
