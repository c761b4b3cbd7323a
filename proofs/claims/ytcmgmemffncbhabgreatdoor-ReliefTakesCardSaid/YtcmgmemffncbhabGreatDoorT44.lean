/-
  A slice of picks,opened out of an argument's reading.
-/
import Derived.Test.YtcmgmemffncbhabGreatDoorT43
import Derived.Test.YtcmgmemffncbhabGreatDoorT32
set_option linter.unusedVariables false
set_option linter.unusedSimpArgs false
set_option maxHeartbeats 16000000
set_option maxRecDepth 100000
namespace Go.Proofs.YtcmgmemffncbhabGreatDoor
open Go.RowKit Tr Go.Shelf Go.ChangeShapes Go.WideShapes Go.ChangeAt
set_option maxRecDepth 100000
theorem cells_pick{H:Type}{enc:TypeId×Value→H}{W:World}{b:Nat}{sp:Nat→Bool}{held:Bool}{fuel:Nat}{l:List Value}{x:DataW H×List MemPlace}(h:DataW.trod enc Tryz.prog W b sp held fuel 43 l=some x):∃i:Pk,l=i.cells.toList:=by
 obtain⟨xs,n,_,_,hlen,hxs,hel⟩:=DataW.trod_struct Tryz.underlying43 h
 have hC:Tryz.prog.cellsOf 43=2:=by kernel_rfl
 have k1:Tryz.prog.cellsOf 9=1:=by kernel_rfl
 have k4:Tryz.prog.cellsOf 23=1:=by kernel_rfl
 rw[hC] at hlen
 match l,hlen with
 | [c0,c1],_ =>
   have f0:DataW.trod enc Tryz.prog W b sp held n 9 (([c0,c1].drop 0).take (Tryz.prog.cellsOf 9))=xs[0]?:=hel 0 _ rfl
   obtain⟨y0,e0⟩:∃y,xs[0]?=some y:=⟨_,Aae (by rw[hxs];decide)⟩
   rw[e0,k1] at f0
   simp only[List.drop_succ_cons,List.drop_zero,List.take_succ_cons,List.take_zero] at f0
   obtain⟨n0,g0,_,_⟩:=DataW.trod_string Tryz.underlying9 f0
   simp only[List.cons.injEq,and_true] at g0
   have f1:DataW.trod enc Tryz.prog W b sp held n 23 (([c0,c1].drop 1).take (Tryz.prog.cellsOf 23))=xs[1]?:=hel 1 _ rfl
   obtain⟨y1,e1⟩:∃y,xs[1]?=some y:=⟨_,Aae (by rw[hxs];decide)⟩
   rw[e1,k4] at f1
   simp only[List.drop_succ_cons,List.drop_zero,List.take_succ_cons,List.take_zero] at f1
   obtain⟨n1,g1,_,_⟩:=DataW.trod_string Tryz.underlying23 f1
   simp only[List.cons.injEq,and_true] at g1
   exact⟨⟨n0,n1⟩,by simp only[g0,g1]⟩
theorem pkAt_cells{w:World}{b:Nat}{p:Addr}{l:Pk}(h:w.cells? b p 2=some l.cells.toList):PkAt w p l∧p.block<w.heap.size:=by
 obtain⟨_,_,hc⟩:=World.cells?_some h
 have h0:w.cell? p=some (.string l.lot):=by have:=hc 0 (by omega);simpa[Addr.add] using this
 have hp:=Av7 h0
 refine⟨⟨h0,?_⟩,Afv h0⟩
 have:=hc 1 (by omega);rw[Av6 p hp] at this;simpa using this
theorem open_picks{H:Type}{enc:TypeId×Value→H}{W:World}{base b:Nat}{sp:Nat→Bool}{held:Bool}{v:Value}{d:DataW H}{p:List MemPlace}(hv:Value.okWide Tryz.prog W .any base 24 v)(h:DataW.Trod enc Tryz.prog W b sp held 24 v d p):
 ∃(A:Option Addr) (ps:List Pk) (c:Nat),v=.slice A ps.length c∧ps.length≤c∧ps.length≤maxLen∧RdK W.heap.size W A ps∧(A=none→ps.length=0∧c=0):=by
 obtain⟨a0,len,cap,rfl⟩:=okWide_slice Tryz.underlying24 hv
 obtain⟨fuel,hf⟩:=h
 have hC:Tryz.prog.cellsOf 43=2:=by kernel_rfl
 rcases Deep.open_slice Tryz.underlying24 hf with⟨h0,_⟩|⟨a,len',cap',m,n,D,Pl,hcs,_,hl,hm,hmm,_,hel⟩
 ·simp only[Value.cells,List.cons.injEq,and_true] at h0
  injection h0 with e1 e2 e3
  subst e1 e2 e3
  exact⟨none,[],0,rfl,by simp,by simp,RdK.nil _ _ _,fun _=>⟨rfl,rfl⟩⟩
 ·simp only[Value.cells,List.cons.injEq,and_true] at hcs
  injection hcs with e1 e2 e3
  subst e1 e2 e3
  have hlm:len≤m:=by rw[hmm];split<;>omega
  obtain⟨ls,hls,hP⟩:=Av9 len (fun j (l:Pk)=>PkAt W (a.add (j*2)) l∧(a.add (j*2)).block<W.heap.size) (fun j hj=>by
   obtain⟨cs',g1,g2⟩:=hel j (by omega)
   rw[hC] at g1
   obtain⟨l,rfl⟩:=cells_pick g2
   exact⟨l,pkAt_cells g1⟩)
  refine⟨some a,ls,cap,by rw[hls],by omega,by omega,fun hne=>⟨a,rfl,?_,fun j l hj=>(hP j l hj).1⟩,fun h=>by cases h⟩
  have hpos:0<ls.length:=List.length_pos_iff.2 hne
  have:=(hP 0 _ (Aae hpos)).2
  simpa[Addr.add] using this
theorem open_lots2{H:Type}{enc:TypeId×Value→H}{W:World}{base b:Nat}{sp:Nat→Bool}{held:Bool}{v:Value}{d:DataW H}{p:List MemPlace}(hv:Value.okWide Tryz.prog W .any base 22 v)(h:DataW.Trod enc Tryz.prog W b sp held 22 v d p):
 ∃(A:Option Addr) (ls:List Lot) (c:Nat),v=.slice A ls.length c∧ls.length≤c∧ls.length≤maxLen∧RdL W A ls∧(A=none→ls.length=0∧c=0):=by
 obtain⟨a0,len,cap,rfl⟩:=okWide_slice Tryz.underlying22 hv
 cases a0 with
 | some a =>
   obtain⟨A,ls,c,e,h1,h2,h3⟩:=Awa hv h
   refine⟨A,ls,c,e,h1,h2,h3,fun hn=>?_⟩
   rw[hn] at e
   injection e with e
   cases e
 | none =>
   obtain⟨fuel,hf⟩:=h
   rcases Deep.open_slice Tryz.underlying22 hf with⟨h0,_⟩|⟨a,len',cap',m,n,D,Pl,hcs,_,hl,hm,hmm,_,hel⟩
   ·simp only[Value.cells,List.cons.injEq,and_true] at h0
    injection h0 with e1 e2 e3
    subst e2 e3
    exact⟨none,[],0,rfl,by simp,by simp,RdL.nil _ _,fun _=>⟨rfl,rfl⟩⟩
   ·simp only[Value.cells,List.cons.injEq,and_true] at hcs
    injection hcs with e1 e2 e3
    cases e1
end Go.Proofs.YtcmgmemffncbhabGreatDoor
