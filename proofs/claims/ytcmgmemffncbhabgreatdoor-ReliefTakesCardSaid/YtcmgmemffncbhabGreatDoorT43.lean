/-
  A slice of lots,a slice of days,opened out of an argument's reading.
-/
import Derived.Test.YtcmgmemffncbhabGreatDoorT42
import Derived.Test.YtcmgmemffncbhabGreatDoorT20
import Derived.Deep.Slices
set_option linter.unusedVariables false
set_option linter.unusedSimpArgs false
set_option maxHeartbeats 16000000
set_option maxRecDepth 100000
namespace Go.Proofs.YtcmgmemffncbhabGreatDoor
open Go.RowKit Tr Go.Shelf Go.ChangeShapes Go.WideShapes Go.ChangeAt
set_option maxRecDepth 100000
theorem Av6(p:Addr)(hp:p.spot=none)(n:Nat):p.add n=⟨p.block,p.off+n,none⟩:=by
 unfold Addr.add
 split
 ·next h=>subst h;cases p;simp_all
 ·cases p;simp_all
theorem Av7{w:World}{p:Addr}{v:Value}(h:w.cell? p=some v):p.spot=none:=by
 unfold World.cell? at h
 split at h
 ·split at h
  ·cases h
  ·next hs=>simpa using hs
 ·cases h
theorem Av8{w:World}{b:Nat}{p:Addr}{l:Lot}(h:w.cells? b p 7=some l.cells.toList):LotAt w p l∧p.block<w.heap.size:=by
 obtain⟨_,_,hc⟩:=World.cells?_some h
 have h0:w.cell? p=some (.string l.id):=by have:=hc 0 (by omega);simpa[Addr.add] using this
 have hp:=Av7 h0
 refine⟨⟨h0,?_,?_,?_,?_,?_,?_⟩,Afv h0⟩
 ·have:=hc 1 (by omega);rw[Av6 p hp] at this;simpa using this
 ·have:=hc 2 (by omega);rw[Av6 p hp] at this;simpa using this
 ·have:=hc 3 (by omega);rw[Av6 p hp] at this;simpa using this
 ·have:=hc 4 (by omega);rw[Av6 p hp] at this;simpa using this
 ·have:=hc 5 (by omega);rw[Av6 p hp] at this;simpa using this
 ·have:=hc 6 (by omega);rw[Av6 p hp] at this;simpa using this
theorem Av9{α:Type}(n:Nat)(P:Nat→α→Prop)(h:∀i,i<n→∃x,P i x):∃l:List α,l.length=n∧∀i x,l[i]?=some x→P i x:=by
 induction n with
 | zero=>exact⟨[],rfl,fun i x hx=>by simp at hx⟩
 | succ n ih =>
   obtain⟨l,hl,hp⟩:=ih (fun i hi=>h i (by omega))
   obtain⟨y,hy⟩:=h n (by omega)
   refine⟨l++[y],by simp[hl],fun i x hx=>?_⟩
   rcases Aam i l.length with hi|hi
   ·rw[List.getElem?_append_left hi] at hx;exact hp i x hx
   ·rw[Aa1 hi] at hx
    have:i-l.length=0:=by have:=(Aak.1 hx).1;simp at this;omega
    rw[this] at hx
    simp at hx
    subst hx
    have:i=n:=by omega
    subst this
    exact hy
theorem Awa{H:Type}{enc:TypeId×Value→H}{W:World}{base b:Nat}{sp:Nat→Bool}{held:Bool}{v:Value}{d:DataW H}{p:List MemPlace}(hv:Value.okWide Tryz.prog W .any base 22 v)(h:DataW.Trod enc Tryz.prog W b sp held 22 v d p):
 ∃(A:Option Addr) (ls:List Lot) (c:Nat),v=.slice A ls.length c∧ls.length≤c∧ls.length≤maxLen∧RdL W A ls:=by
 obtain⟨a0,len,cap,rfl⟩:=okWide_slice Tryz.underlying22 hv
 obtain⟨fuel,hf⟩:=h
 have hC:Tryz.prog.cellsOf 38=7:=by kernel_rfl
 rcases Deep.open_slice Tryz.underlying22 hf with⟨h0,_⟩|⟨a,len',cap',m,n,D,Pl,hcs,_,hl,hm,hmm,_,hel⟩
 ·simp only[Value.cells,List.cons.injEq,and_true] at h0
  injection h0 with e1 e2 e3
  subst e1 e2 e3
  exact⟨none,[],0,rfl,by simp,by simp,RdL.nil _ _⟩
 ·simp only[Value.cells,List.cons.injEq,and_true] at hcs
  injection hcs with e1 e2 e3
  subst e1 e2 e3
  have hlm:len≤m:=by rw[hmm];split<;>omega
  obtain⟨ls,hls,hP⟩:=Av9 len (fun j (l:Lot)=>LotAt W (a.add (j*7)) l∧(a.add (j*7)).block<W.heap.size) (fun j hj=>by
   obtain⟨cs',g1,g2⟩:=hel j (by omega)
   rw[hC] at g1
   obtain⟨l,rfl⟩:=Av5 g2
   exact⟨l,Av8 g1⟩)
  refine⟨some a,ls,cap,by rw[hls],by omega,by omega,fun hne=>⟨a,rfl,?_,fun j l hj=>(hP j l hj).1⟩⟩
  have hpos:0<ls.length:=List.length_pos_iff.2 hne
  have:=(hP 0 _ (Aae hpos)).2
  simpa[Addr.add] using this
end Go.Proofs.YtcmgmemffncbhabGreatDoor
