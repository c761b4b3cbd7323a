/-
  Positions,plainly: their names in ascending order,their sums,and the map that sums them.
-/
import Derived.Sort.KeysCollected
import Derived.Test.YtcmgmemffncbhabGreatDoorT22
set_option linter.unusedVariables false
set_option linter.unusedSimpArgs false
set_option maxHeartbeats 16000000
set_option maxRecDepth 100000
namespace Go.Proofs.YtcmgmemffncbhabGreatDoor
open Go.RowKit Tr Go.Shelf Go.Maps
structure Pos where
 inst:ByteArray
 qty:ByteArray
 cost:ByteArray
def Pos.cells(p:Pos):Array Value:=#[.string p.inst,.string p.qty,.string p.cost]
def posOf(ls:List SLot)(s:ByteArray):Pos:=⟨s,I (sumBy qtyOf (ownL ls s)),I (sumBy costOf (ownL ls s))⟩
def hasI(ls:List SLot)(s:ByteArray):Prop:=∃x∈ls,x.1.inst=s
def posR(v:Value):Option (DataW Pos×List MemPlace) :=
 match v with
 | .agg cs=>(match cs.toList with
   | [.string a,.string b,.string c]=>some (.held ⟨a,b,c⟩,[])
   | _=>none)
 | _=>none
abbrev keyS(s:ByteArray):Lit:=.string s.data.toList
structure PosD(ls:List SLot)(D:DataW Pos):Prop where
 mp:IsMap D
 yes:∀s,hasI ls s→∀z,D.atKey (keyS s) z=.held (posOf ls s)
 no:∀s,¬hasI ls s→∀z,D.atKey (keyS s) z=z
def insts:List SLot→List (List UInt8)
 | []=>[]
 | x::r=>if x.1.inst.data.toList∈insts r then insts r else x.1.inst.data.toList::insts r
theorem insts_nodup:∀ls:List SLot,(insts ls).Nodup
 | []=>List.nodup_nil
 | x::r=>by
   unfold insts
   split
   ·exact insts_nodup r
   ·rename_i h
    exact List.nodup_cons.2 ⟨h,insts_nodup r⟩
theorem Anw(b:List UInt8):∀ls:List SLot,b∈insts ls↔∃x∈ls,x.1.inst.data.toList=b
 | []=>by simp[insts]
 | x :: r => by
   unfold insts
   have ih:=Anw b r
   split
   ·rename_i h
    rw[ih]
    constructor
    ·rintro⟨y,hy,e⟩;exact⟨y,by simp[hy],e⟩
    ·rintro⟨y,hy,e⟩
     rcases List.mem_cons.1 hy with rfl|hy
     ·rw[←ih,←e];exact h
     ·exact⟨y,hy,e⟩
   ·rw[List.mem_cons,ih]
    constructor
    ·rintro (rfl|⟨y,hy,e⟩)
     ·exact⟨x,by simp,rfl⟩
     ·exact⟨y,by simp[hy],e⟩
    ·rintro⟨y,hy,e⟩
     rcases List.mem_cons.1 hy with rfl|hy
     ·exact .inl e.symm
     ·exact .inr ⟨y,hy,e⟩
theorem Anx(s:ByteArray)(ls:List SLot):s.data.toList∈insts ls↔hasI ls s:=by
 rw[Anw]
 constructor
 ·rintro⟨x,hx,e⟩;exact⟨x,hx,by rw[←bs_of x.1.inst,e,bs_of]⟩
 ·rintro⟨x,hx,e⟩;exact⟨x,hx,by rw[e]⟩
def names(ls:List SLot):List (List UInt8):=(insts ls).mergeSort leB
theorem PosD.names{ls:List SLot}{D:DataW Pos}(h:PosD ls D){w:World}{b n:Nat}(hown:w.ownsMap Tryz.prog 9 posR b n D){ss:List (List UInt8)}(hp:ss.Perm (strKeys D)):ss.mergeSort leB=names ls:=by
 have hc:Collected D (fun _=>false) (insts ls):=by
  refine⟨insts_nodup ls,fun x=>?_⟩
  have e:x=(bs x).data.toList:=(Aei x).symm
  rw[e,Anx]
  constructor
  ·intro hx;exact⟨has_true_of_atKey (h.yes _ hx),rfl⟩
  ·rintro⟨hx,_⟩
   refine Classical.byContradiction fun hn=>?_
   rw[has_false_of_atKey (h.no _ hn)] at hx
   cases hx
 exact mergeSort_of_perm (hp.trans (hc.perm hown strKeyed Tryz.underlying9 (fun _=>rfl)).symm)
end Go.Proofs.YtcmgmemffncbhabGreatDoor
namespace Go.Proofs.YtcmgmemffncbhabGreatDoor
open Go.RowKit Tr Go.Shelf Go.Maps Go.Sort Go.WideMaps
structure PosAt(w:World)(p:Addr)(x:Pos):Prop where
 c0:w.cell? p=some (.string x.inst)
 c1:w.cell? ⟨p.block,p.off+1,none⟩=some (.string x.qty)
 c2:w.cell? ⟨p.block,p.off+2,none⟩=some (.string x.cost)
theorem PosAt.below{w w':World}{p:Addr}{x:Pos}{B:Nat}(h:PosAt w p x)(hb:Below B w w')(hp:p.block<B):PosAt w' p x :=
 ⟨(hb.cell hp).trans h.c0,(hb.cell (p:=⟨p.block,p.off+1,none⟩) hp).trans h.c1,(hb.cell (p:=⟨p.block,p.off+2,none⟩) hp).trans h.c2⟩
def RdPos(n₀:Nat)(w:World)(A:Option Addr)(ps:List Pos):Prop :=
 ps≠[]→∃ad:Addr,A=some ad∧ad.block<n₀∧∀(j:Nat) (x:Pos),ps[j]?=some x→PosAt w (ad.add (j*3)) x
theorem RdPos.below{n₀:Nat}{w w':World}{A:Option Addr}{ps:List Pos}(h:RdPos n₀ w A ps)(hb:Below n₀ w w'):RdPos n₀ w' A ps:=by
 intro hl
 obtain⟨ad,rfl,h1,h2⟩:=h hl
 exact⟨ad,rfl,h1,fun j l hj=>(h2 j l hj).below hb (by rw[Acv];exact h1)⟩
theorem RdPos.mono{n₀ n₁:Nat}{w:World}{A:Option Addr}{ps:List Pos}(h:RdPos n₀ w A ps)(hn:n₀≤n₁):RdPos n₁ w A ps:=by
 intro hl
 obtain⟨ad,rfl,h1,h2⟩:=h hl
 exact⟨ad,rfl,by omega,h2⟩
def RdNm(n₀:Nat)(w:World)(A:Option Addr)(ns:List (List UInt8)):Prop:=∀k b,ns[k]?=some b→∃ad:Addr,A=some ad∧ad.block<n₀∧w.cell? (ad.add k)=some (.string (bs b))
theorem RdNm.of_own{w:World}{base:Nat}{v:Value}{ns:List (List UInt8)}(h:w.ownsRow base 9 1 v ns.length (ns.map encStr)):∃A c,v=.slice A ns.length c∧RdNm w.heap.size w A ns:=by
 rcases h.2 with⟨rfl,h0⟩|⟨g,cap,cur,rfl,hb,hg,hnc,hcm,_⟩
 ·have:ns=[]:=Aag h0
  subst this
  exact⟨none,0,rfl,fun k b e=>by simp at e⟩
 ·refine⟨_,_,rfl,fun k b e=>⟨_,rfl,(Aab.1 hg).1,?_⟩⟩
  exact h.cells (g:=g) rfl k _ (by rw[List.getElem?_map,e];rfl)
theorem RdNm.below{n₀:Nat}{w w':World}{A:Option Addr}{ns:List (List UInt8)}(h:RdNm n₀ w A ns)(hb:Below n₀ w w'):RdNm n₀ w' A ns:=by
 intro k b e
 obtain⟨ad,rfl,h1,h2⟩:=h k b e
 exact⟨ad,rfl,h1,(hb.cell (by rw[Acv];exact h1)).trans h2⟩
end Go.Proofs.YtcmgmemffncbhabGreatDoor
