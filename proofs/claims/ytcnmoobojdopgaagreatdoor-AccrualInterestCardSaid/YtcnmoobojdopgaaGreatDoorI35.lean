/-
  Plain: accrued interest is not negative,and nothing where a period begins;a list of lots with one of them cut. (Printed by gen_ati.py.)
-/
import Derived.Test.YtcnmoobojdopgaaGreatDoorI33
import Derived.Test.YtcnmoobojdopgaaGreatDoorI34
set_option linter.unusedVariables false
set_option linter.unusedSimpArgs false
set_option maxHeartbeats 16000000
set_option maxRecDepth 100000
namespace Go.Proofs.YtcnmoobojdopgaaGreatDoor
open Go.RowKit Tr Go.Shelf
theorem accQ_nn{i:Inst}(h:BdI i){d:Int}(hd:okDay d):0≤accQ i d:=by
 rcases Ast (perL i) d with⟨k,p,h1,h2,h3,h4⟩|h1
 ·rw[As1 h1 h2]
  exact intQ_nn h (h.per (Aar h2)).1 hd h3
 ·rw[As2 h1];exact Rat.le_refl
theorem Auh{i:Inst}(h:BdI i){k:Nat}{p:Int×Int}(hp:(perL i)[k]?=some p):accQ i p.1=0:=by
 rw[acc_per h hp (Int.le_refl _) (per_lt h hp),intQ_self i (h.per (Aar hp)).1]
theorem rnd_nnQ{p:Rat}(h:0≤p):0≤rnd p:=Aq3 (Rat.num_nonneg.2 h)
def nid:ByteArray:=⟨#[122,122,47,57,57,57,57]⟩
theorem nid_ok:idB nid=true:=by kernel_rfl
def cutN(l:Lot)(q:ByteArray):Lot:={cutB l q with id:=nid}
theorem cut_oks{l:Lot}{q:ByteArray}(hti:l.tiny)(h:l.ok)(hq:Can q)(q1:q.size≤13)(q0:0<vl q)(q2:vl q<vl l.qty):(cutA l q).sized∧(cutA l q).ok∧(cutN l q).sized∧(cutN l q).ok:=by
 obtain⟨z1,z2⟩:=Aq5 (t:=vl l.cost) (p:=vl q) (a:=vl l.qty) h.pc (by omega) h.pq (by omega)
 have hZ:cutZ l q=Aq2 (vl l.cost) (vl q) (vl l.qty):=rfl
 have hbc:(vl l.cost).natAbs<10^13:=Aah (vl_lt l.cost) (Ac4 hti.2.1)
 have hbq:(vl l.qty).natAbs<10^13:=Aah (vl_lt l.qty) (Ac4 hti.1)
 have s1:(I (cutZ l q)).size≤14:=Ac3 (k:=13) (by rw[hZ];omega)
 have s2:(I (vl l.qty-vl q)).size≤14:=Ac3 (k:=13) (by omega)
 have s3:(I (vl l.cost-cutZ l q)).size≤14:=Ac3 (k:=13) (by rw[hZ];omega)
 have hU:∀x:ByteArray,x.size≤1000→(cutU l x).size≤1000:=by
  intro x hx
  unfold cutU
  split
  ·decide
  ·exact hx
 have hUc:∀x:ByteArray,Can x→Can (cutU l x):=by
  intro x hx
  unfold cutU
  split
  ·rfl
  ·exact hx
 have hUs:∀x:ByteArray,cutU l x=⟨#[]⟩∨cutU l x=x:=by
  intro x
  unfold cutU
  split
  ·exact .inl rfl
  ·exact .inr rfl
 have hCI:∀z:Int,Can (I z):=fun z=>by unfold Can;rw[vl_I]
 obtain⟨t1,t2,t3,t4,t5⟩:=hti
 have hni:=nid_ok
 have hns:nid.size=7:=rfl
 refine⟨⟨by show l.id.size≤_;omega,by show l.inst.size≤_;omega,by show q.size≤_;omega,by show (I _).size≤_;omega,hU q (by omega)⟩,{id:=h.id,inst:=h.inst,acq:=h.acq,opn:=h.opn,ord:=h.ord,cq:=hq,cc:=hCI _,cu:=hUc q hq,pq:=q0,pc:=by show 0≤vl (I _);rw[vl_I,hZ];exact z1,us:=hUs q},⟨by show nid.size≤_;omega,by show l.inst.size≤_;omega,by show (I _).size≤_;omega,by show (I _).size≤_;omega,hU _ (by omega)⟩,{id:=hni,inst:=h.inst,acq:=h.acq,opn:=h.opn,ord:=h.ord,cq:=hCI _,cc:=hCI _,cu:=hUc _ (hCI _),pq:=by show 0<vl (I _);rw[vl_I];omega,pc:=by show 0≤vl (I _);rw[vl_I,hZ];omega,us:=hUs _}⟩
def cutS(zs:List SLot)(k:Nat)(a b:SLot):List SLot:=zs.take k++zs.drop (k+1)++[a,b]
theorem Aui{zs:List SLot}{k:Nat}{a b:SLot}(hk:k<zs.length):(cutS zs k a b).length=zs.length+1:=by
 unfold cutS
 simp
 omega
theorem Auj(f:SLot→Int):∀(l m:List SLot),sumBy f (l++m)=sumBy f l+sumBy f m
 | l,[]=>by simp[sumBy]
 | l,x::m=>by
   have e:l++x::m=(l++[x])++m:=by simp
   have e2:x::m=[x]++m:=rfl
   rw[e,Auj f (l++[x]) m,sumBy_snoc,e2,Auj f [x] m,show ([x]:List SLot)=[]++[x] from rfl,sumBy_snoc]
   simp[sumBy]
   omega
theorem Auk(l m:List SLot)(s:ByteArray):ownL (l++m) s=ownL l s++ownL m s:=by unfold ownL;rw[List.filter_append]
theorem Aum{zs:List SLot}{k:Nat}{x a b:SLot}{s:ByteArray}(hx:zs[k]?=some x)(ha:a.1.inst=x.1.inst)(hb:b.1.inst=x.1.inst)(hq:vl a.1.qty+vl b.1.qty=vl x.1.qty):
 sumBy qtyOf (ownL (cutS zs k a b) s)=sumBy qtyOf (ownL zs s):=by
 have hk:k<zs.length:=(Aak.1 hx).1
 have hz:zs=zs.take k++([x]++zs.drop (k+1)):=by
  have e:zs[k]=x:=by rw[Aae hk] at hx;exact Option.some.inj hx
  have:=List.drop_eq_getElem_cons hk
  rw[e] at this
  calc zs=zs.take k++zs.drop k:=(List.take_append_drop k zs).symm
   _=_:=by rw[this];rfl
 have e1:sumBy qtyOf (ownL [a,b] s)=sumBy qtyOf (ownL [x] s):=by
  by_cases h:x.1.inst=s
  ·have h1:ownL [a,b] s=[]++[a]++[b]:=by simp[ownL,ha,hb,h]
   have h2:ownL [x] s=[]++[x]:=by simp[ownL,h]
   rw[h1,h2,sumBy_snoc,sumBy_snoc,sumBy_snoc]
   simp only[qtyOf]
   omega
  ·have h1:ownL [a,b] s=[]:=by simp[ownL,ha,hb,h]
   have h2:ownL [x] s=[]:=by simp[ownL,h]
   rw[h1,h2]
 conv=>rhs;rw[hz]
 unfold cutS
 rw[Auk,Auk,Auk,Auk,Auj,Auj,Auj,Auj,e1]
 omega
theorem Aun{zs:List SLot}{k:Nat}{x a b:SLot}(h:LAll (zs.map Subtype.val))(hx:zs[k]?=some x)(hl:zs.length≤100)(ha:lchk a.1=0)(hb:lchk b.1=0)(hai:a.1.id=x.1.id)(hbi:∀y∈zs,y.1.id≠b.1.id):lall ((cutS zs k a b).map Subtype.val)=0:=by
 have hk:k<zs.length:=(Aak.1 hx).1
 have e:zs[k]=x:=by rw[Aae hk] at hx;exact Option.some.inj hx
 have hz:zs=zs.take k++(x::zs.drop (k+1)):=by
  have:=List.drop_eq_getElem_cons hk
  rw[e] at this
  calc zs=zs.take k++zs.drop k:=(List.take_append_drop k zs).symm
   _=_:=by rw[this]
 have hnd:((zs.take k++(x::zs.drop (k+1))).map (fun y:SLot=>y.1.id)).Nodup:=by
  have:=h.nd
  rw[List.map_map] at this
  rw[←hz]
  exact this
 unfold lall
 rw[if_neg (by rw[List.length_map,Aui hk];omega),lallF_nil]
 refine⟨fun l hl=>?_,?_,by simp⟩
 ·obtain⟨y,hy,rfl⟩:=List.mem_map.1 hl
  unfold cutS at hy
  rcases List.mem_append.1 hy with hy|hy
  ·have hm:y∈zs:=by
    rcases List.mem_append.1 hy with hy|hy
    ·exact List.mem_of_mem_take hy
    ·exact List.mem_of_mem_drop hy
   exact h.ok y.1 (List.mem_map.2 ⟨y,hm,rfl⟩)
  ·simp at hy
   rcases hy with rfl|rfl
   ·exact ha
   ·exact hb
 ·rw[List.map_map]
  show ((cutS zs k a b).map (fun y:SLot=>y.1.id)).Nodup
  have hp:((cutS zs k a b).map (fun y:SLot=>y.1.id)).Perm (b.1.id::((zs.take k++(x::zs.drop (k+1))).map (fun y:SLot=>y.1.id))):=by
   unfold cutS
   simp only[List.map_append,List.map_cons,List.map_nil,hai]
   have p1:((zs.take k).map (fun y:SLot=>y.1.id)++(zs.drop (k+1)).map (fun y:SLot=>y.1.id)++[x.1.id,b.1.id]).Perm ([x.1.id,b.1.id]++((zs.take k).map (fun y:SLot=>y.1.id)++(zs.drop (k+1)).map (fun y:SLot=>y.1.id))):=List.perm_append_comm
   refine p1.trans ?_
   simp only[List.cons_append,List.nil_append]
   refine (List.Perm.swap _ _ _).trans (List.Perm.cons _ ?_)
   exact List.perm_middle.symm
  rw[hp.nodup_iff,List.nodup_cons]
  refine⟨fun hm=>?_,hnd⟩
  rw[←hz] at hm
  obtain⟨y,hy,ey⟩:=List.mem_map.1 hm
  exact hbi y hy ey
end Go.Proofs.YtcnmoobojdopgaaGreatDoor
