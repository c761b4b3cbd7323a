/-
  The walks of trancheref02.Long,tranchelaw11.long over fractions in memory;two boxes of fractions swapped;what is left,summed up.
-/
import Derived.Test.YteennkgpeiafaaaGreatDoorG40
set_option linter.unusedVariables false
set_option linter.unusedSimpArgs false
set_option maxHeartbeats 16000000
set_option maxRecDepth 100000
namespace Go.Proofs.YteennkgpeiafaaaGreatDoor
open Go.RowKit Tr Go.Shelf
def fcV(l:List (ByteArray×ByteArray)):List Value:=l.flatMap fun f=>[.string f.1,.string f.2]
theorem fcV_get:∀(l:List (ByteArray×ByteArray)) (j:Nat) (q:ByteArray×ByteArray),l[j]?=some q→(fcV l)[j*2]?=some (.string q.1)∧(fcV l)[j*2+1]?=some (.string q.2)
 | [],j,p,h=>by simp at h
 | x::r,0,p,h=>by
   simp at h;subst h
   simp[fcV]
 | x::r,j+1,p,h=>by
   simp at h
   have:=fcV_get r j p h
   simp only[fcV,List.flatMap_cons] at this ⊢
   rw[show (j+1)*2=j*2+2 from by omega]
   simpa using this
theorem Atg{b n:Nat}{ad:Addr}(had:ad=⟨b,0,none⟩):ad.add n=⟨b,n,none⟩:=by
 rw[had,Asj _ rfl];simp
open Classical in
noncomputable def propB(P:Prop):Bool:=decide P
theorem propB_iff{P:Prop}:propB P=true↔P:=by unfold propB;simp
theorem Ath{P:Prop}(h:¬P):propB P=false:=by unfold propB;simp[h]
def Ati(l:List (ByteArray×ByteArray)):Prop:=∀q∈l,q.1.size≤13∧q.2.size≤13
theorem Atj(l:List (ByteArray×ByteArray))(N b:Nat)(hN:l.length=N)(hm:N≤1000000)(w:World)(hk:w.heap[b]?=some (.cells (fcV l).toArray 25 (0,0))):
 Calls Tryz.prog 56 #[.slice (some ⟨b,0,none⟩) N N] w fun e w'=>e=.returned (.bool (!propB (Ati l)))∧w=w':=by
 obtain⟨ad,had⟩:∃ad:Addr,ad=⟨b,0,none⟩:=⟨_,rfl⟩
 rw[←had]
 have HC:Hid (∀(k:Nat) (q:ByteArray×ByteArray),l[k]?=some q→w.cell? (ad.add (k*2))=some (.string q.1)∧w.cell? ⟨(ad.add (k*2)).block,(ad.add (k*2)).off+1,none⟩=some (.string q.2)):=fun k q hq=>by
  rw[Atg had]
  obtain⟨e0,e1⟩:=fcV_get l k q hq
  refine⟨?_,?_⟩
  ·rw[Aaa hk (k*2),List.getElem?_toArray];exact e0
  ·show w.cell? ⟨b,k*2+1,none⟩=_
   rw[Aaa hk (k*2+1),List.getElem?_toArray];exact e1
 have HN:=hI hN
 clear hk had hN
 go_enter Tryz.func56,Tryz.ntmps56
 go_wp2_with fail
 go_loop [3] (fun v=>∃k:Nat,v=.int .i64 (k:Int)∧k≤N∧Ati (l.take k)) (fun v=>N-(intOf v).toNat)
 case atStart=>exact⟨0,rfl,by omega,fun q hq=>by simp at hq⟩
 case round =>
  obtain⟨k,rfl,hk,hs⟩:=hrel
  have HS:=hI hs
  clear hs
  rcases Aam k N with hlt|hge
  ·obtain⟨⟨x,y⟩,hq⟩:∃q,l[k]?=some q:=⟨_,Aae (by rw[HN.out];exact hlt)⟩
   obtain⟨c0,c1⟩:=HC.out k _ hq
   simp only at c0 c1
   have HTK:=hI (Ask hq)
   have HMM:=hI (Aar hq)
   have hcx:decide ((k:Int)<(N:Int))=true:=by simp;omega
   have hki:(k:Int)<(N:Int):=by omega
   clear hq
   by_cases h1:13<x.size
   ·have t1:decide ((13:Int)<(x.size:Int))=true:=Aay (by omega)
    have HNS:Hid (propB (Ati l)=false):=Ath (fun h=>by have:=(h _ HMM.out).1;simp only at this;omega)
    clear h1
    go_wp2_with fail
    go_ret
    exact⟨by rw[HNS.out];rfl,rfl⟩
   have t1:decide ((13:Int)<(x.size:Int))=false:=Aaz (by omega)
   by_cases h2:13<y.size
   ·have t2:decide ((13:Int)<(y.size:Int))=true:=Aay (by omega)
    have HNS:Hid (propB (Ati l)=false):=Ath (fun h=>by have:=(h _ HMM.out).2;simp only at this;omega)
    clear h1 h2
    go_wp2_with fail
    go_ret
    exact⟨by rw[HNS.out];rfl,rfl⟩
   have t2:decide ((13:Int)<(y.size:Int))=false:=Aaz (by omega)
   have HXY:Hid (x.size≤13∧y.size≤13):=⟨by omega,by omega⟩
   clear h1 h2
   go_wp2_with fail
   refine⟨⟨k+1,by go_num,by omega,fun q hq=>?_⟩,by simp[intOf];omega⟩
   rw[HTK.out,List.mem_append,List.mem_singleton] at hq
   rcases hq with hq|rfl
   ·exact HS.out q hq
   ·exact HXY.out
  ·have hcx:decide ((k:Int)<(N:Int))=false:=by simp;omega
   have hcx2:decide (k<N)=false:=Aaz (by omega)
   have HYS:Hid (propB (Ati l)=true):=propB_iff.2 (fun q hq=>HS.out q (by rw[Aai (by rw[HN.out];exact hge)];exact hq))
   go_wp2_with fail
   go_ret
   exact⟨by rw[HYS.out];rfl,rfl⟩
theorem Atk(l:List (ByteArray×ByteArray))(N b:Nat)(hN:l.length=N)(hm:N≤1000000)(w:World)(hk:w.heap[b]?=some (.cells (fcV l).toArray 25 (0,0))):
 Calls Tryz.prog 11 #[.slice (some ⟨b,0,none⟩) N N] w fun e w'=>e=.returned (.bool (!propB (Ati l)))∧w=w':=by
 have HR:=hI (Atj l N b hN hm w hk)
 clear hk
 go_enter Tryz.func11,Tryz.ntmps11
 go_wp2_with fail
 refine HR.out.mono ?_
 rintro e w1 ⟨rfl,rfl⟩
 go_wp2_with fail
 go_ret
 exact⟨rfl,rfl⟩
theorem Atm(i:Inst)(d:Int):(restL i d (Aqk i)).length≤(perL i).length:=Aap (List.length_filter_le _ _) (Ari i)
end Go.Proofs.YteennkgpeiafaaaGreatDoor
