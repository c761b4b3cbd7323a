/-
  What LotTotals leans on behind the cut: the cut's ways,two lots appended,their sums.
-/
import Derived.Test.YtcnmoobojdopgaaGreatDoorI44
import Derived.Test.YtcnmoobojdopgaaGreatDoorI34
set_option linter.unusedVariables false
set_option linter.unusedSimpArgs false
set_option maxHeartbeats 16000000
set_option maxRecDepth 100000
namespace Go.Proofs.YtcnmoobojdopgaaGreatDoor
open Go.RowKit Tr Go.Shelf
theorem Ava(W:World)(base:Nat)(v:Value)(n:Nat)(xs:List Value)(hown:W.ownsRow base 63 7 v n xs)(Bn:Nat)(LA LB:Lot)(hB:W.heap[Bn]?=some (.cells #[.string LA.id,.string LA.inst,.int .i64 LA.acq,.int .i64 LA.opn,.string LA.qty,.string LA.cost,.string LA.used,.string LB.id,.string LB.inst,.int .i64 LB.acq,.int .i64 LB.opn,.string LB.qty,.string LB.cost,.string LB.used] 63 (0,0)))(hn:n≤100000)(hb:base≤W.heap.size):
 ∃v5 w5,(Builtin.append_ #[45,45] 45 #[v,.slice (some ⟨Bn,0,none⟩) 2 2]).run Tryz.prog W=.ok v5 w5∧w5.ownsRow base 63 7 v5 (n+2) (xs++(LA.cells.toList++LB.cells.toList))∧W.grownBy w5 v.ownBlock:=by
 obtain⟨i0,hi0,hz0,hz1,hz2⟩:=info_parts Tryz.infoLot
 obtain⟨v5,w5,h1,h2,h3,_⟩:=run_append_own (P:=Tryz.prog) W base 45 45 63 i0 _ 7 96 Tryz.underlying45 hi0 hz0 hz1 hz2 rfl (by decide) v n xs hown ⟨Bn,0,none⟩ 2 2 (LA.cells.toList++LB.cells.toList) rfl
  (fun j u hu=>by
    rw[An3,Aaa hB j,←Array.getElem?_toList]
    exact hu)
  (fun u hu=>by
    rcases List.mem_append.1 hu with hu|hu<;>simp at hu<;>rcases hu with rfl|rfl|rfl|rfl|rfl|rfl|rfl<;>rfl) (by unfold maxLen;omega) (by omega) hb
 exact⟨v5,w5,h1,h2,h3⟩
theorem Avb{P:Program}{ops:Array Oper}{o:Oper}{a:Act}{K:Act→World→Prop}{Q:Exit→Act→World→Prop}{E:Prop}{t ty:TypeId}{sv xv v':Value}{w w':World}(hr:(Builtin.append_ #[t,t] ty #[sv,xv]).run P w=.ok v' w')(hgd:o.guard=none)(s x:Operand)
 (ho:o.op=.call {callee:=.builtin .append,args:=#[s,x],argTypes:=#[t,t]}) (hty:o.type=ty) (hs:a.eval s=sv) (hx:a.eval x=xv) (h:K (a.put o.dst v') w') :
 if Region.wanted o (yielded ops a.tmps)=true then Oper.wp P o a w K Q else E:=by
 subst hty
 have hw:Region.wanted o (yielded ops a.tmps)=true:=by simp[Region.wanted,hgd]
 rw[if_pos hw]
 unfold Oper.wp execOp
 simp only[ho,resolve,invoke,builtin,Sem.run_bind,Sem.run_pure,Result.andThen_ok,List.map_toArray,List.map_cons,List.map_nil,hs,hx,hr]
 exact h
theorem Avc(LA LB:Lot)(W:World):
 (Instr.buildSlice 45 2 #[(0,.agg #[.string LA.id,.string LA.inst,.int .i64 LA.acq,.int .i64 LA.opn,.string LA.qty,.string LA.cost,.string LA.used]),(1,.agg #[.string LB.id,.string LB.inst,.int .i64 LB.acq,.int .i64 LB.opn,.string LB.qty,.string LB.cost,.string LB.used])]).run Tryz.prog W=.ok (.slice (some ⟨W.heap.size,0,none⟩) 2 2) (W.alloc (.cells #[.string LA.id,.string LA.inst,.int .i64 LA.acq,.int .i64 LA.opn,.string LA.qty,.string LA.cost,.string LA.used,.string LB.id,.string LB.inst,.int .i64 LB.acq,.int .i64 LB.opn,.string LB.qty,.string LB.cost,.string LB.used] 63)):=by
 kernel_rfl
theorem Avd{P:Program}{ops:Array Oper}{o:Oper}{a:Act}{K:Act→World→Prop}{Q:Exit→Act→World→Prop}{E:Prop}{t:TypeId}{n i j:Nat}{x y:Operand}{vx vy:Value}{v':Value}{w w':World}(hr:(Instr.buildSlice t n #[(i,vx),(j,vy)]).run P w=.ok v' w')(hgd:o.guard=none)
 (ho:o.op=.buildSlice t n #[(i,x),(j,y)]) (hx:a.eval x=vx) (hy:a.eval y=vy) (h:K (a.put o.dst v') w') :
 if Region.wanted o (yielded ops a.tmps)=true then Oper.wp P o a w K Q else E:=by
 have hw:Region.wanted o (yielded ops a.tmps)=true:=by simp[Region.wanted,hgd]
 rw[if_pos hw]
 unfold Oper.wp execOp
 simp only[ho,Sem.run_bind,Sem.run_pure,Result.andThen_ok,List.map_toArray,List.map_cons,List.map_nil,hx,hy,hr]
 exact h
end Go.Proofs.YtcnmoobojdopgaaGreatDoor
