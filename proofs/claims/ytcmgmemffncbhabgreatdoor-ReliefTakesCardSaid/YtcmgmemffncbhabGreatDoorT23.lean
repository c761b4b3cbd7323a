/-
  slices.Grow of nil,slices.Concat of two slices of lots.
-/
import Derived.Test.YtcmgmemffncbhabGreatDoorT22
import Derived.Laws.StructEq
import Derived.BigQuiet
import Derived.Lib.AppendZeros
set_option linter.unusedVariables false
set_option linter.unusedSimpArgs false
set_option maxHeartbeats 16000000
set_option maxRecDepth 100000
namespace Go.Proofs.YtcmgmemffncbhabGreatDoor
open Go.RowKit Tr Go.Shelf
theorem Anq(p:Addr)(hp:p.spot=none)(n:Nat):p.add n=⟨p.block,p.off+n,none⟩:=by
 unfold Addr.add
 split
 ·next h=>subst h;cases p;simp_all
 ·cases p;simp_all
theorem Anr{w:World}{p:Addr}{v:Value}(h:w.cell? p=some v):p.spot=none:=by
 unfold World.cell? at h
 split at h
 ·split at h
  ·cases h
  ·next hs=>simpa using hs
 ·cases h
theorem flatL_at:∀(ls:List SLot) (j:Nat) (u:Value),(flatL ls)[j]?=some u→∃k l f,ls[k]?=some l∧f<7∧j=k*7+f∧l.1.cells[f]?=some u
 | [],j,u,h=>by simp[flatL] at h
 | x::r,j,u,h=>by
   simp only[flatL,List.flatMap_cons] at h
   rcases Aam j 7 with hj|hj
   ·rw[List.getElem?_append_left (by simp;omega)] at h
    exact⟨0,x,j,rfl,hj,by omega,by simpa using h⟩
   ·rw[Aa1 (by simp;omega)] at h
    obtain⟨k,l,f,h1,h2,h3,h4⟩:=flatL_at r (j-x.1.cells.toList.length) u h
    refine⟨k+1,l,f,by simpa using h1,h2,?_,h4⟩
    simp at h3
    omega
theorem RdB.flat{n:Nat}{w:World}{a:Addr}{ls:List SLot}(h:RdB n w (some a) ls):∀j u,(flatL ls)[j]?=some u→w.cell? (a.add j)=some u:=by
 intro j u hu
 obtain⟨k,l,f,h1,h2,rfl,h4⟩:=flatL_at ls j u hu
 obtain⟨ad,e,_,hc⟩:=h (by intro e;rw[e] at h1;cases h1)
 injection e with e
 subst e
 obtain⟨c0,c1,c2,c3,c4,c5,c6⟩:=hc k l h1
 have hs:a.spot=none:=by
  obtain⟨y,hy⟩:∃y,ls[0]?=some y:=⟨_,Aae (by have:=(Aak.1 h1).1;omega)⟩
  have h0:=(hc 0 y hy).c0
  rw[show a.add (0*7)=a from by unfold Addr.add;simp] at h0
  exact Anr h0
 rw[Anq a hs] at c0 c1 c2 c3 c4 c5 c6
 rw[Anq a hs]
 rcases (show f=0∨f=1∨f=2∨f=3∨f=4∨f=5∨f=6 from by omega) with rfl|rfl|rfl|rfl|rfl|rfl|rfl<;>simp at h4<;>subst h4
 ·simpa using c0
 ·simpa[Nat.add_assoc] using c1
 ·simpa[Nat.add_assoc] using c2
 ·simpa[Nat.add_assoc] using c3
 ·simpa[Nat.add_assoc] using c4
 ·simpa[Nat.add_assoc] using c5
 ·simpa[Nat.add_assoc] using c6
theorem Ans(ls:List SLot):(flatL ls).length=ls.length*7:=by
 induction ls with
 | nil=>rfl
 | cons x r ih =>
   simp only[flatL,List.flatMap_cons,Aan,Aa0] at ih ⊢
   rw[ih]
   simp
   omega
theorem Ant(ls:List SLot):∀u∈flatL ls,u.oneCell'=true:=by
 intro u hu
 obtain⟨x,_,hx⟩:=List.mem_flatMap.1 hu
 simp at hx
 rcases hx with rfl|rfl|rfl|rfl|rfl|rfl|rfl<;>rfl
theorem Anu(a b:List SLot):flatL (a++b)=flatL a++flatL b:=by simp[flatL]
end Go.Proofs.YtcmgmemffncbhabGreatDoor
