/-
  The walk of bond.Flows. (Printed by gen_bd12.py.)
-/
import Derived.Test.YtcnmoobojdopgaaGreatDoorT28
import Derived.Laws.StructEq
set_option linter.unusedVariables false
set_option linter.unusedSimpArgs false
set_option maxHeartbeats 16000000
set_option maxRecDepth 100000
namespace Go.Proofs.YtcnmoobojdopgaaGreatDoor
open Go.RowKit Tr Go.Shelf
attribute [local go_sem] Oper.semAt_some
theorem At8(op:BinOp)(x y:Operand)(xs ys:Array Value)(w:World):(eqGuard op 25 x y (.agg xs) (.agg ys)).run Tryz.prog w=.ok () w:=run_eqGuard_agg w op _ x y xs ys (by kernel_rfl)
attribute [local go_sem] At8
def flV(l:List (Int×Rat)):List Value:=l.flatMap fun f=>[.int .i64 f.1,.string (I f.2.num),.string (dn f.2)]
end Go.Proofs.YtcnmoobojdopgaaGreatDoor
namespace Go.Proofs.YtcnmoobojdopgaaGreatDoor
open Go.RowKit Tr Go.Shelf
attribute [local go_sem] Oper.semAt_some
end Go.Proofs.YtcnmoobojdopgaaGreatDoor
namespace Go.Proofs.YtcnmoobojdopgaaGreatDoor
open Go.RowKit Tr Go.Shelf
attribute [local go_sem] Oper.semAt_some
end Go.Proofs.YtcnmoobojdopgaaGreatDoor
namespace Go.Proofs.YtcnmoobojdopgaaGreatDoor
open Go.RowKit Tr Go.Shelf
theorem At9{n d:ByteArray}(h:Amj n d=0):CanQ n d:=by
 refine Classical.byContradiction fun hc=>?_
 unfold Amj at h
 rw[if_pos hc] at h
 exact absurd h (by decide)
theorem BdI.fQ{i:Inst}(h:BdI i):CanQ i.fn i.fd:=At9 h.ok.n1
theorem BdI.cQ{i:Inst}(h:BdI i):CanQ i.cn i.cd:=At9 h.ok.n2
noncomputable def addX(d n:Int):Int:=(addM d n).getD 0
noncomputable def addC(d n:Int):Int:=match addM d n with
 | some _=>0
 | none=>if -4800≤n∧n≤4800 then 13 else 2
theorem Aua{d n x:Int}(h:addM d n=some x):addX d n=x∧addC d n=0:=by unfold addX addC;rw[h];exact⟨rfl,rfl⟩
theorem Aub{d n:Int}(h:addM d n=none):addC d n≠0:=by unfold addC;rw[h];simp only;split<;>decide
theorem Auc{d n:Int}(h:¬(-4800≤n∧n≤4800)):addM d n=none:=by unfold addM;rw[if_neg (fun x=>h x.1)]
noncomputable def cutC(a b mo:Int)(j:Nat):Int:=match cutAt a b mo j with
 | some d=>d
 | none=>a
theorem Aud{a b mo d:Int}{j:Nat}(h:cutAt a b mo j=some d):cutC a b mo j=d∧a<d:=by
 unfold cutC;rw[h];exact⟨rfl,(Aj7 h).2⟩
theorem Aue{a b mo:Int}{j:Nat}(h:cutAt a b mo j=none):cutC a b mo j=a:=by unfold cutC;rw[h]
theorem Auf(a b mo:Int)(j:Nat):(cutAt a b mo j=some (addX b (-(j*mo)))∧addC b (-(j*mo))=0∧a<addX b (-(j*mo)))∨(cutAt a b mo j=none∧(addC b (-(j*mo))≠0∨addX b (-(j*mo))≤a)):=by
 cases h:addM b (-(j*mo)) with
 | none=>exact .inr ⟨Aj9 (fun d hd=>by rw[h] at hd;cases hd),.inl (Aub h)⟩
 | some x =>
   obtain⟨e1,e2⟩:=Aua h
   rw[e1,e2]
   rcases Int.lt_or_le a x with hl|hl
   ·exact .inl ⟨Aj8 h hl,rfl,hl⟩
   ·exact .inr ⟨Aj9 (fun d hd=>by rw[h] at hd;injection hd with hd;omega),.inr hl⟩
noncomputable def backL(a b mo:Int)(k:Nat):List Int:=((cuts a b mo).take k).reverse++[b]
noncomputable def headL(a b mo:Int)(k:Nat):Int:=(backL a b mo k).headD 0
theorem back_ne(a b mo:Int)(k:Nat):∃r,backL a b mo k=headL a b mo k::r:=by
 unfold headL
 cases h:backL a b mo k with
 | nil=>unfold backL at h;simp at h
 | cons x r=>exact⟨r,rfl⟩
theorem Aug{a b mo:Int}{k:Nat}{x:Int}(h:(cuts a b mo)[k]?=some x):backL a b mo (k+1)=x::backL a b mo k:=by
 unfold backL
 rw[List.take_add_one,h]
 simp
theorem Auh{a b mo:Int}{k:Nat}{x:Int}(h:(cuts a b mo)[k]?=some x):headL a b mo (k+1)=x:=by unfold headL;rw[Aug h];rfl
theorem Aui{a b mo:Int}(k:Nat)(x:Int):pairs (x::backL a b mo k)=(x,headL a b mo k)::pairs (backL a b mo k):=by
 obtain⟨r,hr⟩:=back_ne a b mo k
 rw[hr]
 rfl
theorem Auj(a b mo:Int):pairs (a::backL a b mo (cuts a b mo).length)=pers a b mo:=by
 unfold backL pers ends
 rw[List.take_length]
end Go.Proofs.YtcnmoobojdopgaaGreatDoor
