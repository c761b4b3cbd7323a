/-
  trancheref10.Check returns 0 exactly for valid instruments. (Printed by gen_ref17.py.)
-/
import Derived.Test.YteennkgpeiafaaaGreatDoorG22
import Derived.Test.YteennkgpeiafaaaGreatDoorG23
import Derived.Test.YteennkgpeiafaaaGreatDoorG24
set_option linter.unusedVariables false
set_option linter.unusedSimpArgs false
set_option maxHeartbeats 16000000
set_option maxRecDepth 100000
namespace Go.Proofs.YteennkgpeiafaaaGreatDoor
open Go.RowKit Tr Go.Shelf
theorem Ak1(i:Inst)(hs:i.tiny)(w:World):
 Calls Tryz.prog 57 #[i.enc] w (ChkPost w i.ok):=by
 by_cases h2:i.kind=2
 ·exact rCheck10_a i hs h2 w
 by_cases h5:i.kind=5
 ·exact rCheck10_b i hs h5 w
 exact rCheck10_c i hs ⟨h2,h5⟩ w
def numB(t:List UInt8):Bool:=decide (t.length≤4)&&(match Lib.atoi t with|some v=>decide (1≤v)&&decide (v≤9999)&&(Lib.itoa v==t)|none=>false)
def idB(s:ByteArray):Bool:=numB (Lib.cut s.data.toList [47]).2.1&&Aj7 (bs (Lib.cut s.data.toList [47]).1)
structure Lot where
 id:ByteArray
 inst:ByteArray
 acq:Int
 opn:Int
 qty:ByteArray
 cost:ByteArray
 used:ByteArray
abbrev Lot.cells(l:Lot):Array Value:=#[.string l.id,.string l.inst,.int .i64 l.acq,.int .i64 l.opn,.string l.qty,.string l.cost,.string l.used]
def Lot.sized(l:Lot):Prop:=l.id.size≤1000∧l.inst.size≤1000∧l.qty.size≤1000∧l.cost.size≤1000∧l.used.size≤1000
def LotBox(W:World)(B:Nat)(l:Lot):Prop:=W.heap[B]?=some (.cells l.cells 72 (0,0))
theorem lbc{W:World}{B:Nat}{x:Lot}(h:LotBox W B x):W.cell? ⟨B,0,none⟩=some (.string x.id)∧W.cell? ⟨B,1,none⟩=some (.string x.inst)∧W.cell? ⟨B,2,none⟩=some (.int .i64 x.acq)∧W.cell? ⟨B,3,none⟩=some (.int .i64 x.opn)∧W.cell? ⟨B,4,none⟩=some (.string x.qty)∧W.cell? ⟨B,5,none⟩=some (.string x.cost)∧W.cell? ⟨B,6,none⟩=some (.string x.used) :=
 ⟨(Aaa h 0).trans rfl,(Aaa h 1).trans rfl,(Aaa h 2).trans rfl,(Aaa h 3).trans rfl,(Aaa h 4).trans rfl,(Aaa h 5).trans rfl,(Aaa h 6).trans rfl⟩
theorem LotBox.below{W W':World}{B:Nat}{l:Lot}(h:LotBox W B l)(hb:Below W.heap.size W W'):LotBox W' B l:=(hb.block B (Aab.1 h).1).trans h
theorem LotBox.lt{W:World}{B:Nat}{l:Lot}(h:LotBox W B l):B<W.heap.size:=(Aab.1 h).1
structure Lot.ok(l:Lot):Prop where
 id:idB l.id=true
 inst:Aj7 l.inst=true
 acq:okDay l.acq
 opn:okDay l.opn
 ord:l.acq≤l.opn
 cq:Can l.qty
 cc:Can l.cost
 cu:Can l.used
 pq:0<vl l.qty
 pc:0≤vl l.cost
 us:l.used=⟨#[]⟩∨l.used=l.qty
def u3Cells(l:Lot):Array Value:=#[.string l.qty,.string l.cost,.string l.used]
structure LLoop(w:World)(S:Nat)(l:Lot)(W:World):Prop where
 ns:W.heap[S]?=some (.cells (u3Cells l) 23 (0,0))
 ib:LotBox W w.heap.size l
 be:Below w.heap.size w W
theorem LLoop.below{w:World}{S:Nat}{l:Lot}{W W':World}(h:LLoop w S l W)(hb:Below W.heap.size W W'):LLoop w S l W' :=
 ⟨(hb.block S (Aab.1 h.ns).1).trans h.ns,h.ib.below hb,h.be.trans (hb.mono h.be.size)⟩
end Go.Proofs.YteennkgpeiafaaaGreatDoor
